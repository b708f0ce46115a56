import Derived.Test.YtpcnidiealmgfaaProg
import Derived.Test.YtpcnidiealmgfaaAeB
import Derived.Test.YtpcnidiealmgfaaGridX
import Derived.Test.YtpcnidiealmgfaaNameC
import Derived.Test.YtpcnidiealmgfaaNameR
import Derived.Test.YtpcnidiealmgfaaNameX
namespace Go.Proofs.Ytpcnidiealmgfaa.EEditBack
open Go Go.Proofs.Ytpcnidiealmgfaa.AE
set_option maxRecDepth 100000
set_option linter.unusedVariables false
-- tatting/tattinglaw24.EditBack
noncomputable def c7 : Code := match Try.f7.body with | some c => c | none => .skip
def s7 : Sig := ⟨⟨[.dat (.slice (.slice (.int .u8))), .dat (.slice (.slice (.int .u8))), .dat (.slice (.pair (.int .i64) (.one (.int .i64))))], []⟩, ⟨[.dat .bool], []⟩⟩
def hs7 : List (List Nat × LH) := [([0, 1, 0, 1, 1, 1], ⟨[0, 1, 2, 7], ⟨[.dat (.slice (.slice (.int .u8))), .dat (.slice (.slice (.int .u8))), .dat (.slice (.pair (.int .i64) (.one (.int .i64)))), .dat (.int .i64)], []⟩, 0⟩), ([0, 1, 0, 1, 1, 1, 1], ⟨[0, 1, 2, 8], ⟨[.dat (.slice (.slice (.int .u8))), .dat (.slice (.slice (.int .u8))), .dat (.slice (.pair (.int .i64) (.one (.int .i64)))), .dat (.int .i64)], []⟩, 2⟩)]
noncomputable def h7 : How s7 := .code Try.f7 c7 hs7
-- tatting/edit.Make
noncomputable def c8 : Code := match Try.f8.body with | some c => c | none => .skip
def s8 : Sig := ⟨⟨[.dat (.slice (.slice (.int .u8))), .dat (.slice (.slice (.int .u8))), .dat (.slice (.pair (.int .i64) (.one (.int .i64))))], []⟩, ⟨[.dat (.slice (.pair (.int .i64) (.pair (.slice (.slice (.int .u8))) (.one (.slice (.slice (.int .u8))))))), .dat (.int .i64)], []⟩⟩
def hs8 : List (List Nat × LH) := [([0, 1, 0, 1, 1, 1, 1, 1, 1], ⟨[3, 4, 11, 14, 30, 31, 32], ⟨[.ptr 0 0, .ptr 1 0, .ptr 2 0, .fnc 26 [3, 4, 2, 0, 1], .dat (.slice (.pair (.int .i64) (.one (.int .i64)))), .dat (.int .i64), .dat (.int .i64)], [.var (.slice (.slice (.int .u8))), .var (.slice (.slice (.int .u8))), .vrow (.pair (.int .i64) (.pair (.slice (.slice (.int .u8))) (.one (.slice (.slice (.int .u8)))))), .var (.int .i64), .var (.int .i64)]⟩, 0⟩)]
noncomputable def h8 : How s8 := .code Try.f8 c8 hs8
-- tatting/edit.Pairs
noncomputable def c9 : Code := match Try.f9.body with | some c => c | none => .skip
def s9 : Sig := ⟨⟨[.dat (.int .i64), .dat (.slice (.pair (.int .i64) (.pair (.slice (.slice (.int .u8))) (.one (.slice (.slice (.int .u8)))))))], []⟩, ⟨[.dat (.slice (.pair (.int .i64) (.one (.int .i64)))), .dat (.int .i64)], []⟩⟩
def hs9 : List (List Nat × LH) := [([0, 1, 0, 1, 1, 1, 1, 1], ⟨[0, 6, 7, 8, 9, 24, 25, 26], ⟨[.dat (.int .i64), .ptr 0 0, .ptr 1 0, .ptr 2 0, .fnc 28 [1, 2, 0], .dat (.slice (.pair (.int .i64) (.pair (.slice (.slice (.int .u8))) (.one (.slice (.slice (.int .u8))))))), .dat (.int .i64), .dat (.int .i64)], [.vrow (.pair (.int .i64) (.one (.int .i64))), .var (.int .i64), .var (.int .i64)]⟩, 0⟩)]
noncomputable def h9 : How s9 := .code Try.f9 c9 hs9
-- tatting/tattinglaw24.awake
noncomputable def c10 : Code := match Try.f10.body with | some c => c | none => .skip
def s10 : Sig := ⟨⟨[], []⟩, ⟨[.dat .bool], []⟩⟩
def hs10 : List (List Nat × LH) := []
noncomputable def h10 : How s10 := .code Try.f10 c10 hs10
-- tatting/edit.Good
noncomputable def c11 : Code := match Try.f11.body with | some c => c | none => .skip
def s11 : Sig := ⟨⟨[.dat (.slice (.pair (.int .i64) (.pair (.slice (.slice (.int .u8))) (.one (.slice (.slice (.int .u8)))))))], []⟩, ⟨[.dat .bool], []⟩⟩
def hs11 : List (List Nat × LH) := [([0, 1, 0, 1, 1], ⟨[3, 6, 7, 8], ⟨[.dat (.int .i64), .dat (.slice (.pair (.int .i64) (.pair (.slice (.slice (.int .u8))) (.one (.slice (.slice (.int .u8))))))), .dat (.int .i64), .dat (.int .i64)], []⟩, 0⟩)]
noncomputable def h11 : How s11 := .code Try.f11 c11 hs11
-- tatting/tattingref1.SamePairs
noncomputable def c12 : Code := match Try.f12.body with | some c => c | none => .skip
def s12 : Sig := ⟨⟨[.dat (.slice (.pair (.int .i64) (.one (.int .i64)))), .dat (.slice (.pair (.int .i64) (.one (.int .i64))))], []⟩, ⟨[.dat .bool], []⟩⟩
def hs12 : List (List Nat × LH) := [([0, 1, 0, 1, 1], ⟨[0, 1, 5], ⟨[.dat (.slice (.pair (.int .i64) (.one (.int .i64)))), .dat (.slice (.pair (.int .i64) (.one (.int .i64)))), .dat (.int .i64)], []⟩, 0⟩)]
noncomputable def h12 : How s12 := .code Try.f12 c12 hs12
-- tatting/tattinglaw24.few
noncomputable def c13 : Code := match Try.f13.body with | some c => c | none => .skip
def s13 : Sig := ⟨⟨[.dat (.slice (.slice (.int .u8)))], []⟩, ⟨[.dat .bool], []⟩⟩
def hs13 : List (List Nat × LH) := [([0, 1, 0, 1, 1], ⟨[0, 3], ⟨[.dat (.slice (.slice (.int .u8))), .dat (.int .i64)], []⟩, 0⟩)]
noncomputable def h13 : How s13 := .code Try.f13 c13 hs13
-- tatting/edit.Count
noncomputable def c17 : Code := match Try.f17.body with | some c => c | none => .skip
def s17 : Sig := ⟨⟨[.dat (.slice (.pair (.int .i64) (.pair (.slice (.slice (.int .u8))) (.one (.slice (.slice (.int .u8)))))))], []⟩, ⟨[.dat (.int .i64), .dat (.int .i64)], []⟩⟩
def hs17 : List (List Nat × LH) := [([0, 1, 0, 1], ⟨[2, 3, 6, 7, 8], ⟨[.dat (.int .i64), .dat (.int .i64), .dat (.slice (.pair (.int .i64) (.pair (.slice (.slice (.int .u8))) (.one (.slice (.slice (.int .u8))))))), .dat (.int .i64), .dat (.int .i64)], []⟩, 0⟩)]
noncomputable def h17 : How s17 := .code Try.f17 c17 hs17
-- tatting/tattingref1.Two
noncomputable def c21 : Code := match Try.f21.body with | some c => c | none => .skip
def s21 : Sig := ⟨⟨[.dat (.slice (.slice (.int .u8))), .dat (.slice (.slice (.int .u8)))], []⟩, ⟨[.dat (.slice (.int .i64)), .dat (.slice (.int .i64)), .dat (.int .i64)], []⟩⟩
def hs21 : List (List Nat × LH) := []
noncomputable def h21 : How s21 := .code Try.f21 c21 hs21
-- tatting/tattingref7.Good
noncomputable def c22 : Code := match Try.f22.body with | some c => c | none => .skip
def s22 : Sig := ⟨⟨[.dat (.slice (.int .i64)), .dat (.slice (.int .i64)), .dat (.slice (.pair (.int .i64) (.one (.int .i64))))], []⟩, ⟨[.dat .bool], []⟩⟩
def hs22 : List (List Nat × LH) := [([0, 1, 0, 1], ⟨[0, 1, 2, 7], ⟨[.dat (.slice (.int .i64)), .dat (.slice (.int .i64)), .dat (.slice (.pair (.int .i64) (.one (.int .i64)))), .dat (.int .i64)], []⟩, 0⟩)]
noncomputable def h22 : How s22 := .code Try.f22 c22 hs22
-- tatting/tattingref7.Least
noncomputable def c23 : Code := match Try.f23.body with | some c => c | none => .skip
def s23 : Sig := ⟨⟨[.dat (.slice (.int .i64)), .dat (.slice (.int .i64))], []⟩, ⟨[.dat (.slice (.pair (.int .i64) (.one (.int .i64))))], []⟩⟩
def hs23 : List (List Nat × LH) := [([0, 1, 0, 1, 1, 1, 1], ⟨[0, 1, 5, 6, 7, 8, 9], ⟨[.dat (.slice (.int .i64)), .dat (.slice (.int .i64)), .dat (.slice (.slice (.int .i64))), .ref 0, .dat (.int .i64), .dat (.int .i64), .dat (.int .i64)], [.row (.pair (.int .i64) (.one (.int .i64)))]⟩, 0⟩)]
noncomputable def h23 : How s23 := .code Try.f23 c23 hs23
-- tatting/names.Two
noncomputable def c24 : Code := match Try.f24.body with | some c => c | none => .skip
def s24 : Sig := ⟨⟨[.dat (.slice (.slice (.int .u8))), .dat (.slice (.slice (.int .u8)))], []⟩, ⟨[.dat (.slice (.int .i64)), .dat (.slice (.int .i64)), .dat (.int .i64)], []⟩⟩
def hs24 : List (List Nat × LH) := []
noncomputable def h24 : How s24 := .code Try.f24 c24 hs24
-- tatting/pairs.Good
noncomputable def c25 : Code := match Try.f25.body with | some c => c | none => .skip
def s25 : Sig := ⟨⟨[.dat (.slice (.int .i64)), .dat (.slice (.int .i64)), .dat (.slice (.pair (.int .i64) (.one (.int .i64))))], []⟩, ⟨[.dat .bool], []⟩⟩
def hs25 : List (List Nat × LH) := [([0, 1, 0, 1, 1], ⟨[0, 1, 7, 11, 12, 13], ⟨[.dat (.slice (.int .i64)), .dat (.slice (.int .i64)), .ptr 0 0, .dat (.slice (.pair (.int .i64) (.one (.int .i64)))), .dat (.int .i64), .dat (.int .i64)], [.var (.pair (.int .i64) (.one (.int .i64)))]⟩, 0⟩)]
noncomputable def h25 : How s25 := .code Try.f25 c25 hs25
-- tatting/edit.Make$1
noncomputable def c26 : Code := match Try.f26.body with | some c => c | none => .skip
def s26 : Sig := ⟨⟨[.dat (.int .i64), .dat (.int .i64), .ptr 0 0, .ptr 1 0, .ptr 2 0, .ptr 3 0, .ptr 4 0], [.var (.int .i64), .var (.int .i64), .vrow (.pair (.int .i64) (.pair (.slice (.slice (.int .u8))) (.one (.slice (.slice (.int .u8)))))), .var (.slice (.slice (.int .u8))), .var (.slice (.slice (.int .u8)))]⟩, ⟨[], [.var (.int .i64), .var (.int .i64), .vrow (.pair (.int .i64) (.pair (.slice (.slice (.int .u8))) (.one (.slice (.slice (.int .u8)))))), .var (.slice (.slice (.int .u8))), .var (.slice (.slice (.int .u8)))]⟩⟩
def hs26 : List (List Nat × LH) := []
noncomputable def h26 : How s26 := .code Try.f26 c26 hs26
-- tatting/edit.tokens
noncomputable def c27 : Code := match Try.f27.body with | some c => c | none => .skip
def s27 : Sig := ⟨⟨[.dat (.slice (.slice (.int .u8)))], []⟩, ⟨[.dat (.slice (.slice (.int .u8)))], []⟩⟩
def hs27 : List (List Nat × LH) := [([0, 1, 0, 1, 1], ⟨[3, 6, 7, 8], ⟨[.ref 0, .dat (.slice (.slice (.int .u8))), .dat (.int .i64), .dat (.int .i64)], [.row (.slice (.int .u8))]⟩, 0⟩)]
noncomputable def h27 : How s27 := .code Try.f27 c27 hs27
-- tatting/edit.Pairs$1
noncomputable def c28 : Code := match Try.f28.body with | some c => c | none => .skip
def s28 : Sig := ⟨⟨[.dat (.int .i64), .ptr 0 0, .ptr 1 0, .ptr 2 0], [.var (.int .i64), .var (.int .i64), .vrow (.pair (.int .i64) (.one (.int .i64)))]⟩, ⟨[], [.var (.int .i64), .var (.int .i64), .vrow (.pair (.int .i64) (.one (.int .i64)))]⟩⟩
def hs28 : List (List Nat × LH) := [([0], ⟨[0, 1, 2, 3], ⟨[.dat (.int .i64), .ptr 0 0, .ptr 1 0, .ptr 2 0], [.var (.int .i64), .var (.int .i64), .vrow (.pair (.int .i64) (.one (.int .i64)))]⟩, 0⟩)]
noncomputable def h28 : How s28 := .code Try.f28 c28 hs28
-- tatting/edit.all
noncomputable def c29 : Code := match Try.f29.body with | some c => c | none => .skip
def s29 : Sig := ⟨⟨[.dat (.slice (.slice (.int .u8)))], []⟩, ⟨[.dat .bool], []⟩⟩
def hs29 : List (List Nat × LH) := [([0, 1, 0, 1], ⟨[5, 6, 7], ⟨[.dat (.slice (.slice (.int .u8))), .dat (.int .i64), .dat (.int .i64)], []⟩, 0⟩)]
noncomputable def h29 : How s29 := .code Try.f29 c29 hs29
-- tatting/tattingref1.Sort
noncomputable def c31 : Code := match Try.f31.body with | some c => c | none => .skip
def s31 : Sig := ⟨⟨[.dat (.slice (.slice (.int .u8)))], []⟩, ⟨[.dat (.slice (.slice (.int .u8)))], []⟩⟩
def hs31 : List (List Nat × LH) := [([0, 0, 1, 0, 0, 1, 0, 0, 1, 0, 1, 1], ⟨[0, 3, 4, 5], ⟨[.dat (.slice (.slice (.int .u8))), .ref 0, .dat (.int .i64), .dat (.int .i64)], [.row (.slice (.int .u8))]⟩, 2⟩), ([0, 1, 0, 1, 1], ⟨[0, 3, 4], ⟨[.dat (.slice (.slice (.int .u8))), .ref 0, .dat (.int .i64)], [.row (.slice (.int .u8))]⟩, 0⟩)]
noncomputable def h31 : How s31 := .code Try.f31 c31 hs31
-- tatting/tattingref1.Ids
noncomputable def c32 : Code := match Try.f32.body with | some c => c | none => .skip
def s32 : Sig := ⟨⟨[.dat (.slice (.slice (.int .u8))), .dat (.slice (.slice (.int .u8)))], []⟩, ⟨[.dat (.slice (.int .i64)), .dat .bool], []⟩⟩
def hs32 : List (List Nat × LH) := [([0, 1, 0, 1, 1], ⟨[0, 1, 6, 7], ⟨[.dat (.slice (.slice (.int .u8))), .dat (.slice (.slice (.int .u8))), .ref 0, .dat (.int .i64)], [.row (.int .i64)]⟩, 0⟩)]
noncomputable def h32 : How s32 := .code Try.f32 c32 hs32
-- tatting/tattingref7.first
noncomputable def c34 : Code := match Try.f34.body with | some c => c | none => .skip
def s34 : Sig := ⟨⟨[.dat (.slice (.int .i64)), .dat (.slice (.int .i64)), .dat (.slice (.slice (.int .i64))), .dat (.int .i64), .dat (.int .i64), .dat (.int .i64)], []⟩, ⟨[.dat (.int .i64), .dat (.int .i64)], []⟩⟩
def hs34 : List (List Nat × LH) := [([0, 1, 0, 0, 1, 0, 0, 1, 0, 1], ⟨[0, 1, 2, 4, 5, 14, 15], ⟨[.dat (.slice (.int .i64)), .dat (.slice (.int .i64)), .dat (.slice (.slice (.int .i64))), .dat (.int .i64), .dat (.int .i64), .dat (.int .i64), .dat (.int .i64)], []⟩, 2⟩), ([0, 1, 0, 1], ⟨[0, 1, 2, 4, 5, 14], ⟨[.dat (.slice (.int .i64)), .dat (.slice (.int .i64)), .dat (.slice (.slice (.int .i64))), .dat (.int .i64), .dat (.int .i64), .dat (.int .i64)], []⟩, 0⟩)]
noncomputable def h34 : How s34 := .code Try.f34 c34 hs34
-- tatting/names.Sort
noncomputable def c35 : Code := match Try.f35.body with | some c => c | none => .skip
def s35 : Sig := ⟨⟨[.dat (.slice (.slice (.int .u8)))], []⟩, ⟨[.dat (.slice (.slice (.int .u8)))], []⟩⟩
def hs35 : List (List Nat × LH) := [([0, 1, 0, 1, 1, 1, 1, 1], ⟨[4, 16, 17, 18], ⟨[.ref 0, .ref 1, .dat (.int .i64), .dat (.int .i64)], [.row (.slice (.int .u8)), .row (.slice (.int .u8))]⟩, 0⟩)]
noncomputable def h35 : How s35 := .code Try.f35 c35 hs35
-- slices.Concat[[][]byte,[]byte]
noncomputable def c36 : Code := match Try.f36.body with | some c => c | none => .skip
def s36 : Sig := ⟨⟨[.dat (.slice (.slice (.slice (.int .u8))))], []⟩, ⟨[.dat (.slice (.slice (.int .u8)))], []⟩⟩
def hs36 : List (List Nat × LH) := [([0, 1, 0, 1, 1], ⟨[0, 3, 9, 10, 11], ⟨[.dat (.slice (.slice (.slice (.int .u8)))), .dat (.int .i64), .dat (.slice (.slice (.slice (.int .u8)))), .dat (.int .i64), .dat (.int .i64)], []⟩, 0⟩), ([0, 1, 0, 1, 1, 1, 1], ⟨[6, 25, 26, 27], ⟨[.ref 0, .dat (.slice (.slice (.slice (.int .u8)))), .dat (.int .i64), .dat (.int .i64)], [.row (.slice (.int .u8))]⟩, 2⟩)]
noncomputable def h36 : How s36 := .code Try.f36 c36 hs36
-- tatting/names.Ids
noncomputable def c37 : Code := match Try.f37.body with | some c => c | none => .skip
def s37 : Sig := ⟨⟨[.dat (.slice (.slice (.int .u8))), .dat (.slice (.slice (.int .u8)))], []⟩, ⟨[.dat (.slice (.int .i64)), .dat .bool], []⟩⟩
def hs37 : List (List Nat × LH) := [([0, 1, 0, 1, 1], ⟨[0, 6, 14, 15, 16], ⟨[.dat (.slice (.slice (.int .u8))), .ref 0, .dat (.slice (.slice (.int .u8))), .dat (.int .i64), .dat (.int .i64)], [.row (.int .i64)]⟩, 0⟩)]
noncomputable def h37 : How s37 := .code Try.f37 c37 hs37
-- tatting/pairs.is
noncomputable def c38 : Code := match Try.f38.body with | some c => c | none => .skip
def s38 : Sig := ⟨⟨[.dat (.slice (.int .i64)), .dat (.int .i64)], []⟩, ⟨[.dat .bool], []⟩⟩
def hs38 : List (List Nat × LH) := []
noncomputable def h38 : How s38 := .code Try.f38 c38 hs38
-- tatting/tattingref1.Below
noncomputable def c40 : Code := match Try.f40.body with | some c => c | none => .skip
def s40 : Sig := ⟨⟨[.dat (.slice (.int .u8)), .dat (.slice (.int .u8))], []⟩, ⟨[.dat .bool], []⟩⟩
def hs40 : List (List Nat × LH) := [([0, 1, 0, 1], ⟨[0, 1, 5], ⟨[.dat (.slice (.int .u8)), .dat (.slice (.int .u8)), .dat (.int .i64)], []⟩, 0⟩)]
noncomputable def h40 : How s40 := .code Try.f40 c40 hs40
-- tatting/tattingref1.Same
noncomputable def c41 : Code := match Try.f41.body with | some c => c | none => .skip
def s41 : Sig := ⟨⟨[.dat (.slice (.int .u8)), .dat (.slice (.int .u8))], []⟩, ⟨[.dat .bool], []⟩⟩
def hs41 : List (List Nat × LH) := []
noncomputable def h41 : How s41 := .code Try.f41 c41 hs41
-- tatting/tattingref1.Find
noncomputable def c42 : Code := match Try.f42.body with | some c => c | none => .skip
def s42 : Sig := ⟨⟨[.dat (.slice (.slice (.int .u8))), .dat (.slice (.int .u8))], []⟩, ⟨[.dat (.int .i64), .dat .bool], []⟩⟩
def hs42 : List (List Nat × LH) := [([0, 1, 0, 1], ⟨[0, 1, 6], ⟨[.dat (.slice (.slice (.int .u8))), .dat (.slice (.int .u8)), .dat (.int .i64)], []⟩, 0⟩)]
noncomputable def h42 : How s42 := .code Try.f42 c42 hs42
-- bytes.Compare
noncomputable def c45 : Code := match Try.f45.body with | some c => c | none => .skip
def s45 : Sig := ⟨⟨[.dat (.slice (.int .u8)), .dat (.slice (.int .u8))], []⟩, ⟨[.dat (.int .i64)], []⟩⟩
def hs45 : List (List Nat × LH) := []
noncomputable def h45 : How s45 := .code Try.f45 c45 hs45
-- tatting/names.Find
noncomputable def c49 : Code := match Try.f49.body with | some c => c | none => .skip
def s49 : Sig := ⟨⟨[.dat (.slice (.slice (.int .u8))), .dat (.slice (.int .u8))], []⟩, ⟨[.dat (.int .i64), .dat .bool], []⟩⟩
def hs49 : List (List Nat × LH) := []
noncomputable def h49 : How s49 := .code Try.f49 c49 hs49
-- slices.BinarySearchFunc[[][]byte,[]byte,[]byte]
noncomputable def c53 : Code := match Try.f53.body with | some c => c | none => .skip
def s53 : Sig := ⟨⟨[.dat (.slice (.slice (.int .u8))), .dat (.slice (.int .u8)), .fnc 45 []], []⟩, ⟨[.dat (.int .i64), .dat .bool], []⟩⟩
def hs53 : List (List Nat × LH) := [([0, 0, 1, 1, 1], ⟨[0, 1, 2, 8, 9, 10], ⟨[.dat (.slice (.slice (.int .u8))), .dat (.slice (.int .u8)), .fnc 45 [], .dat (.int .i64), .dat (.int .i64), .dat (.int .i64)], []⟩, 0⟩)]
noncomputable def h53 : How s53 := .code Try.f53 c53 hs53
-- tatting/tattingref7.Behind
def s33 : Sig := ⟨⟨[.dat (.slice (.int .i64)), .dat (.slice (.int .i64))], []⟩, ⟨[.dat (.slice (.slice (.int .i64)))], []⟩⟩
def h33 : How s33 := .orc (fun _ x => GridX.behS x)
-- bytes.Clone
def s39 : Sig := ⟨⟨[.dat (.slice (.int .u8))], []⟩, ⟨[.dat (.slice (.int .u8))], []⟩⟩
def h39 : How s39 := .orc (fun _ x => NameX.cloneB x)
-- slices.Clone[[][]byte,[]byte]
def s43 : Sig := ⟨⟨[.dat (.slice (.slice (.int .u8)))], []⟩, ⟨[.ref 0], [.row (.slice (.int .u8))]⟩⟩
def h43 : How s43 := .orc (fun _ x => NameX.cloneR x)
-- slices.SortFunc[[][]byte,[]byte]
def s44 : Sig := ⟨⟨[.ref 0, .fnc 45 []], [.row (.slice (.int .u8))]⟩, ⟨[], [.row (.slice (.int .u8))]⟩⟩
def h44 : How s44 := .orc (fun _ x => NameX.sortR x)
-- slices.CompactFunc[[][]byte,[]byte]
def s46 : Sig := ⟨⟨[.ref 0, .fnc 47 []], [.row (.slice (.int .u8))]⟩, ⟨[.ref 1], [.dead, .row (.slice (.int .u8))]⟩⟩
def h46 : How s46 := .orc (fun _ x => NameX.compactR x)
-- slices.Grow[[][]byte,[]byte]
def s48 : Sig := ⟨⟨[.ref 0, .dat (.int .i64)], [.row (.slice (.int .u8))]⟩, ⟨[.ref 1], [.dead, .row (.slice (.int .u8))]⟩⟩
def h48 : How s48 := .orc (fun _ x => NameX.growR x)
-- internal/bytealg.Compare
def s52 : Sig := ⟨⟨[.dat (.slice (.int .u8)), .dat (.slice (.int .u8))], []⟩, ⟨[.dat (.int .i64)], []⟩⟩
def h52 : How s52 := .orc (fun _ x => NameX.cmpB x)
noncomputable def E : Env := {
  fns := [⟨Sig.none, .none⟩,
    ⟨Sig.none, .none⟩,
    ⟨Sig.none, .none⟩,
    ⟨Sig.none, .none⟩,
    ⟨Sig.none, .none⟩,
    ⟨Sig.none, .none⟩,
    ⟨Sig.none, .none⟩,
    ⟨s7, h7⟩,
    ⟨s8, h8⟩,
    ⟨s9, h9⟩,
    ⟨s10, h10⟩,
    ⟨s11, h11⟩,
    ⟨s12, h12⟩,
    ⟨s13, h13⟩,
    ⟨Sig.none, .none⟩,
    ⟨Sig.none, .none⟩,
    ⟨Sig.none, .none⟩,
    ⟨s17, h17⟩,
    ⟨Sig.none, .none⟩,
    ⟨Sig.none, .none⟩,
    ⟨Sig.none, .none⟩,
    ⟨s21, h21⟩,
    ⟨s22, h22⟩,
    ⟨s23, h23⟩,
    ⟨s24, h24⟩,
    ⟨s25, h25⟩,
    ⟨s26, h26⟩,
    ⟨s27, h27⟩,
    ⟨s28, h28⟩,
    ⟨s29, h29⟩,
    ⟨Sig.none, .none⟩,
    ⟨s31, h31⟩,
    ⟨s32, h32⟩,
    ⟨s33, h33⟩,
    ⟨s34, h34⟩,
    ⟨s35, h35⟩,
    ⟨s36, h36⟩,
    ⟨s37, h37⟩,
    ⟨s38, h38⟩,
    ⟨s39, h39⟩,
    ⟨s40, h40⟩,
    ⟨s41, h41⟩,
    ⟨s42, h42⟩,
    ⟨s43, h43⟩,
    ⟨s44, h44⟩,
    ⟨s45, h45⟩,
    ⟨s46, h46⟩,
    ⟨Sig.none, .none⟩,
    ⟨s48, h48⟩,
    ⟨s49, h49⟩,
    ⟨Sig.none, .none⟩,
    ⟨Sig.none, .none⟩,
    ⟨s52, h52⟩,
    ⟨s53, h53⟩],
  tys := [none,
    none,
    some ⟨(.int .i64), 0⟩,
    some ⟨(.int .i64), 0⟩,
    some ⟨.bool, 0⟩,
    some ⟨(.int .u8), 0⟩,
    none,
    none,
    none,
    some ⟨.str, 0⟩,
    none,
    none,
    none,
    none,
    none,
    none,
    none,
    none,
    none,
    none,
    none,
    none,
    some ⟨(.slice (.int .u8)), 1⟩,
    some ⟨(.slice (.slice (.int .u8))), 24⟩,
    some ⟨(.slice (.pair (.int .i64) (.pair (.slice (.slice (.int .u8))) (.one (.slice (.slice (.int .u8))))))), 56⟩,
    some ⟨(.int .i64), 0⟩,
    none,
    none,
    none,
    some ⟨(.pair (.int .i64) (.one (.int .i64))), 1⟩,
    some ⟨(.slice (.pair (.int .i64) (.one (.int .i64)))), 16⟩,
    none,
    some ⟨(.pair (.int .i64) (.pair (.slice (.slice (.int .u8))) (.one (.slice (.slice (.int .u8)))))), 0⟩,
    none,
    none,
    none,
    none,
    none,
    none,
    none,
    none,
    none,
    none,
    none,
    some ⟨(.slice (.int .i64)), 8⟩,
    none,
    none,
    none,
    none,
    none,
    none,
    none,
    none,
    none,
    none,
    some ⟨(.slice (.slice (.int .i64))), 24⟩,
    none,
    none,
    none,
    none,
    none,
    none,
    none,
    none,
    none,
    none,
    none,
    some ⟨(.slice (.slice (.slice (.int .u8)))), 24⟩,
    none,
    none,
    none,
    some ⟨(.int .u64), 0⟩,
    none,
    none,
    none,
    none,
    none,
    none,
    none,
    none,
    none,
    none,
    none,
    none,
    none,
    none,
    none,
    none,
    none,
    none,
    none,
    none,
    none,
    none,
    none,
    none,
    none,
    none,
    none,
    none,
    none,
    none,
    none,
    none,
    none,
    none,
    none,
    none],
  vrs := [24, 30] }
theorem tys : tysOK Try.prog E.tys = true := by decide +kernel
theorem ok7 (X : ExtRep) : EntryOK Try.prog X 7 s7 h7 := ⟨Try.func7, rfl, by decide, by decide⟩
theorem ok8 (X : ExtRep) : EntryOK Try.prog X 8 s8 h8 := ⟨Try.func8, rfl, by decide, by decide⟩
theorem ok9 (X : ExtRep) : EntryOK Try.prog X 9 s9 h9 := ⟨Try.func9, rfl, by decide, by decide⟩
theorem ok10 (X : ExtRep) : EntryOK Try.prog X 10 s10 h10 := ⟨Try.func10, rfl, by decide, by decide⟩
theorem ok11 (X : ExtRep) : EntryOK Try.prog X 11 s11 h11 := ⟨Try.func11, rfl, by decide, by decide⟩
theorem ok12 (X : ExtRep) : EntryOK Try.prog X 12 s12 h12 := ⟨Try.func12, rfl, by decide, by decide⟩
theorem ok13 (X : ExtRep) : EntryOK Try.prog X 13 s13 h13 := ⟨Try.func13, rfl, by decide, by decide⟩
theorem ok17 (X : ExtRep) : EntryOK Try.prog X 17 s17 h17 := ⟨Try.func17, rfl, by decide, by decide⟩
theorem ok21 (X : ExtRep) : EntryOK Try.prog X 21 s21 h21 := ⟨Try.func21, rfl, by decide, by decide⟩
theorem ok22 (X : ExtRep) : EntryOK Try.prog X 22 s22 h22 := ⟨Try.func22, rfl, by decide, by decide⟩
theorem ok23 (X : ExtRep) : EntryOK Try.prog X 23 s23 h23 := ⟨Try.func23, rfl, by decide, by decide⟩
theorem ok24 (X : ExtRep) : EntryOK Try.prog X 24 s24 h24 := ⟨Try.func24, rfl, by decide, by decide⟩
theorem ok25 (X : ExtRep) : EntryOK Try.prog X 25 s25 h25 := ⟨Try.func25, rfl, by decide, by decide⟩
theorem ok26 (X : ExtRep) : EntryOK Try.prog X 26 s26 h26 := ⟨Try.func26, rfl, by decide, by decide⟩
theorem ok27 (X : ExtRep) : EntryOK Try.prog X 27 s27 h27 := ⟨Try.func27, rfl, by decide, by decide⟩
theorem ok28 (X : ExtRep) : EntryOK Try.prog X 28 s28 h28 := ⟨Try.func28, rfl, by decide, by decide⟩
theorem ok29 (X : ExtRep) : EntryOK Try.prog X 29 s29 h29 := ⟨Try.func29, rfl, by decide, by decide⟩
theorem ok31 (X : ExtRep) : EntryOK Try.prog X 31 s31 h31 := ⟨Try.func31, rfl, by decide, by decide⟩
theorem ok32 (X : ExtRep) : EntryOK Try.prog X 32 s32 h32 := ⟨Try.func32, rfl, by decide, by decide⟩
theorem ok34 (X : ExtRep) : EntryOK Try.prog X 34 s34 h34 := ⟨Try.func34, rfl, by decide, by decide⟩
theorem ok35 (X : ExtRep) : EntryOK Try.prog X 35 s35 h35 := ⟨Try.func35, rfl, by decide, by decide⟩
theorem ok36 (X : ExtRep) : EntryOK Try.prog X 36 s36 h36 := ⟨Try.func36, rfl, by decide, by decide⟩
theorem ok37 (X : ExtRep) : EntryOK Try.prog X 37 s37 h37 := ⟨Try.func37, rfl, by decide, by decide⟩
theorem ok38 (X : ExtRep) : EntryOK Try.prog X 38 s38 h38 := ⟨Try.func38, rfl, by decide, by decide⟩
theorem ok40 (X : ExtRep) : EntryOK Try.prog X 40 s40 h40 := ⟨Try.func40, rfl, by decide, by decide⟩
theorem ok41 (X : ExtRep) : EntryOK Try.prog X 41 s41 h41 := ⟨Try.func41, rfl, by decide, by decide⟩
theorem ok42 (X : ExtRep) : EntryOK Try.prog X 42 s42 h42 := ⟨Try.func42, rfl, by decide, by decide⟩
theorem ok45 (X : ExtRep) : EntryOK Try.prog X 45 s45 h45 := ⟨Try.func45, rfl, by decide, by decide⟩
theorem ok49 (X : ExtRep) : EntryOK Try.prog X 49 s49 h49 := ⟨Try.func49, rfl, by decide, by decide⟩
theorem ok53 (X : ExtRep) : EntryOK Try.prog X 53 s53 h53 := ⟨Try.func53, rfl, by decide, by decide⟩
-- tatting/tattinglaw24.EditBack
def F7_0 (f8 : (List (List Int)) → (List (List Int)) → (List (Int × Int)) → Option ((List (Int × ((List (List Int)) × (List (List Int))))) × Int)) (f9 : Int → (List (Int × ((List (List Int)) × (List (List Int))))) → Option ((List (Int × Int)) × Int)) (f10 : Unit → Option (Bool)) (f11 : (List (Int × ((List (List Int)) × (List (List Int))))) → Option (Bool)) (f12 : (List (Int × Int)) → (List (Int × Int)) → Option (Bool)) (f13 : (List (List Int)) → Option (Bool)) (f17 : (List (Int × ((List (List Int)) × (List (List Int))))) → Option (Int × Int)) (f21 : (List (List Int)) → (List (List Int)) → Option ((List Int) × (List Int) × Int)) (f22 : (List Int) → (List Int) → (List (Int × Int)) → Option (Bool)) (f23 : (List Int) → (List Int) → Option ((List (Int × Int)))) (self : ((List (List Int)) × (List (List Int)) × (List (Int × Int)) × Int) → Option (((List (List Int)) × (List (List Int)) × (List (Int × Int)) × Int) ⊕ (Bool))) (z11 : (List (List Int)) × (List (List Int)) × (List (Int × Int)) × Int) : Option (((List (List Int)) × (List (List Int)) × (List (Int × Int)) × Int) ⊕ (Bool)) :=
let v12 : Int := (z11.1.length : Int)
let v13 : Bool := decide (z11.2.2.2 < v12)
bif v13 then
if 0 ≤ z11.2.2.2 ∧ z11.2.2.2 < (z11.1.length : Int) then
let v14 : (List Int) := z11.1.getD z11.2.2.2.toNat ([] : List Int)
let v15 : Int := (v14.length : Int)
let v16 : Bool := decide (v15 = (0 : Int))
bif v16 then
some (.inr true)
else
let v17 : Int := IntKind.wrap .i64 (z11.2.2.2 + (1 : Int))
self (z11.1, z11.2.1, z11.2.2.1, v17)
else none
else
some (.inl (z11.1, z11.2.1, z11.2.2.1, z11.2.2.2))
def F7_1 (f8 : (List (List Int)) → (List (List Int)) → (List (Int × Int)) → Option ((List (Int × ((List (List Int)) × (List (List Int))))) × Int)) (f9 : Int → (List (Int × ((List (List Int)) × (List (List Int))))) → Option ((List (Int × Int)) × Int)) (f10 : Unit → Option (Bool)) (f11 : (List (Int × ((List (List Int)) × (List (List Int))))) → Option (Bool)) (f12 : (List (Int × Int)) → (List (Int × Int)) → Option (Bool)) (f13 : (List (List Int)) → Option (Bool)) (f17 : (List (Int × ((List (List Int)) × (List (List Int))))) → Option (Int × Int)) (f21 : (List (List Int)) → (List (List Int)) → Option ((List Int) × (List Int) × Int)) (f22 : (List Int) → (List Int) → (List (Int × Int)) → Option (Bool)) (f23 : (List Int) → (List Int) → Option ((List (Int × Int)))) (self : ((List (List Int)) × (List (List Int)) × (List (Int × Int)) × Int) → Option (((List (List Int)) × (List (List Int)) × (List (Int × Int)) × Int) ⊕ (Bool))) (z21 : (List (List Int)) × (List (List Int)) × (List (Int × Int)) × Int) : Option (((List (List Int)) × (List (List Int)) × (List (Int × Int)) × Int) ⊕ (Bool)) :=
let v22 : Int := (z21.2.1.length : Int)
let v23 : Bool := decide (z21.2.2.2 < v22)
bif v23 then
if 0 ≤ z21.2.2.2 ∧ z21.2.2.2 < (z21.2.1.length : Int) then
let v24 : (List Int) := z21.2.1.getD z21.2.2.2.toNat ([] : List Int)
let v25 : Int := (v24.length : Int)
let v26 : Bool := decide (v25 = (0 : Int))
bif v26 then
some (.inr true)
else
let v27 : Int := IntKind.wrap .i64 (z21.2.2.2 + (1 : Int))
self (z21.1, z21.2.1, z21.2.2.1, v27)
else none
else
some (.inl (z21.1, z21.2.1, z21.2.2.1, z21.2.2.2))
def r7 (f8 : (List (List Int)) → (List (List Int)) → (List (Int × Int)) → Option ((List (Int × ((List (List Int)) × (List (List Int))))) × Int)) (f9 : Int → (List (Int × ((List (List Int)) × (List (List Int))))) → Option ((List (Int × Int)) × Int)) (f10 : Unit → Option (Bool)) (f11 : (List (Int × ((List (List Int)) × (List (List Int))))) → Option (Bool)) (f12 : (List (Int × Int)) → (List (Int × Int)) → Option (Bool)) (f13 : (List (List Int)) → Option (Bool)) (f17 : (List (Int × ((List (List Int)) × (List (List Int))))) → Option (Int × Int)) (f21 : (List (List Int)) → (List (List Int)) → Option ((List Int) × (List Int) × Int)) (f22 : (List Int) → (List Int) → (List (Int × Int)) → Option (Bool)) (f23 : (List Int) → (List Int) → Option ((List (Int × Int)))) (lp0 : ((List (List Int)) × (List (List Int)) × (List (Int × Int)) × Int) → Option (((List (List Int)) × (List (List Int)) × (List (Int × Int)) × Int) ⊕ (Bool))) (lp1 : ((List (List Int)) × (List (List Int)) × (List (Int × Int)) × Int) → Option (((List (List Int)) × (List (List Int)) × (List (Int × Int)) × Int) ⊕ (Bool))) (a0 : (List (List Int))) (a1 : (List (List Int))) (a2 : (List (Int × Int))) : Option (Bool) :=
Option.bind (f10 ()) fun y1 =>
let v2 : Bool := !y1
bif v2 then
some false
else
Option.bind (f13 a0) fun y3 =>
let v4 : Bool := !y3
bif v4 == false then
Option.bind (f13 a1) fun y5 =>
let v6 : Bool := !y5
bif v6 == false then
let v7 : Int := (a2.length : Int)
let v8 : Bool := decide (v7 > (30 : Int))
bif v8 then
some true
else
Option.bind (lp0 (a0, a1, a2, (0 : Int))) fun s9 => onSum s9 (fun y10 =>
Option.bind (lp1 (y10.1, y10.2.1, y10.2.2.1, (0 : Int))) fun s19 => onSum s19 (fun y20 =>
Option.bind (f21 y20.1 y20.2.1) fun y29 =>
Option.bind (f22 y29.1 y29.2.1 y20.2.2.1) fun y30 =>
let v31 : Bool := !y30
bif v31 then
Option.bind (f23 y29.1 y29.2.1) fun y32 =>
Option.bind (f8 y20.1 y20.2.1 y32) fun y33 =>
let v34 : Int := (y20.1.length : Int)
Option.bind (f9 v34 y33.1) fun y35 =>
Option.bind (f17 y33.1) fun y36 =>
let v37 : Bool := decide (y33.2 = (0 : Int))
bif v37 == true then
let v38 : Bool := decide (y35.2 = (0 : Int))
bif v38 == true then
Option.bind (f11 y33.1) fun y39 =>
bif y39 == true then
Option.bind (f12 y35.1 y32) fun y40 =>
bif y40 == true then
let v41 : Int := (y20.1.length : Int)
let v42 : Int := (y32.length : Int)
let v43 : Int := IntKind.wrap .i64 (v41 - v42)
let v44 : Bool := decide (y36.1 = v43)
bif v44 == true then
let v45 : Int := (y20.2.1.length : Int)
let v46 : Int := (y32.length : Int)
let v47 : Int := IntKind.wrap .i64 (v45 - v46)
let v48 : Bool := decide (y36.2 = v47)
some v48
else
some false
else
some false
else
some false
else
some false
else
some false
else
Option.bind (f8 y20.1 y20.2.1 y20.2.2.1) fun y49 =>
let v50 : Int := (y20.1.length : Int)
Option.bind (f9 v50 y49.1) fun y51 =>
Option.bind (f17 y49.1) fun y52 =>
let v53 : Bool := decide (y49.2 = (0 : Int))
bif v53 == true then
let v54 : Bool := decide (y51.2 = (0 : Int))
bif v54 == true then
Option.bind (f11 y49.1) fun y55 =>
bif y55 == true then
Option.bind (f12 y51.1 y20.2.2.1) fun y56 =>
bif y56 == true then
let v57 : Int := (y20.1.length : Int)
let v58 : Int := (y20.2.2.1.length : Int)
let v59 : Int := IntKind.wrap .i64 (v57 - v58)
let v60 : Bool := decide (y52.1 = v59)
bif v60 == true then
let v61 : Int := (y20.2.1.length : Int)
let v62 : Int := (y20.2.2.1.length : Int)
let v63 : Int := IntKind.wrap .i64 (v61 - v62)
let v64 : Bool := decide (y52.2 = v63)
some v64
else
some false
else
some false
else
some false
else
some false
else
some false) (fun o28 => some o28)) (fun o18 => some o18)
else
some true
else
some true
-- tatting/edit.Make
def F8_0 (f24 : (List (List Int)) → (List (List Int)) → Option ((List Int) × (List Int) × Int)) (f25 : (List Int) → (List Int) → (List (Int × Int)) → Option (Bool)) (f26 : Int → Int → Int → Int → (List (Int × ((List (List Int)) × (List (List Int))))) → (List (List Int)) → (List (List Int)) → Option (Int × Int × (List (Int × ((List (List Int)) × (List (List Int))))) × (List (List Int)) × (List (List Int)))) (self : ((List (Int × Int)) × Int × Int × (List (List Int)) × (List (List Int)) × (List (Int × ((List (List Int)) × (List (List Int))))) × Int × Int) → Option (((List (Int × Int)) × Int × Int × (List (List Int)) × (List (List Int)) × (List (Int × ((List (List Int)) × (List (List Int))))) × Int × Int) ⊕ ((List (Int × ((List (List Int)) × (List (List Int))))) × Int))) (z7 : (List (Int × Int)) × Int × Int × (List (List Int)) × (List (List Int)) × (List (Int × ((List (List Int)) × (List (List Int))))) × Int × Int) : Option (((List (Int × Int)) × Int × Int × (List (List Int)) × (List (List Int)) × (List (Int × ((List (List Int)) × (List (List Int))))) × Int × Int) ⊕ ((List (Int × ((List (List Int)) × (List (List Int))))) × Int)) :=
let v8 : Bool := decide (z7.2.2.1 < z7.2.1)
bif v8 then
if 0 ≤ z7.2.2.1 ∧ z7.2.2.1 < (z7.1.length : Int) then
let v9 : (Int × Int) := z7.1.getD z7.2.2.1.toNat ((0 : Int), (0 : Int))
Option.bind (f26 v9.1 v9.2 z7.2.2.2.2.2.2.1 z7.2.2.2.2.2.2.2 z7.2.2.2.2.2.1 z7.2.2.2.1 z7.2.2.2.2.1) fun y10 =>
let v11 : Int := IntKind.wrap .i64 (z7.2.2.1 + (1 : Int))
self (z7.1, z7.2.1, v11, y10.2.2.2.1, y10.2.2.2.2, y10.2.2.1, y10.1, y10.2.1)
else none
else
some (.inl (z7.1, z7.2.1, z7.2.2.1, z7.2.2.2.1, z7.2.2.2.2.1, z7.2.2.2.2.2.1, z7.2.2.2.2.2.2.1, z7.2.2.2.2.2.2.2))
def r8 (f24 : (List (List Int)) → (List (List Int)) → Option ((List Int) × (List Int) × Int)) (f25 : (List Int) → (List Int) → (List (Int × Int)) → Option (Bool)) (f26 : Int → Int → Int → Int → (List (Int × ((List (List Int)) × (List (List Int))))) → (List (List Int)) → (List (List Int)) → Option (Int × Int × (List (Int × ((List (List Int)) × (List (List Int))))) × (List (List Int)) × (List (List Int)))) (lp0 : ((List (Int × Int)) × Int × Int × (List (List Int)) × (List (List Int)) × (List (Int × ((List (List Int)) × (List (List Int))))) × Int × Int) → Option (((List (Int × Int)) × Int × Int × (List (List Int)) × (List (List Int)) × (List (Int × ((List (List Int)) × (List (List Int))))) × Int × Int) ⊕ ((List (Int × ((List (List Int)) × (List (List Int))))) × Int))) (a0 : (List (List Int))) (a1 : (List (List Int))) (a2 : (List (Int × Int))) : Option ((List (Int × ((List (List Int)) × (List (List Int))))) × Int) :=
Option.bind (f24 a0 a1) fun y1 =>
Option.bind (f25 y1.1 y1.2.1 a2) fun y2 =>
let v3 : Bool := !y2
bif v3 then
some (([] : List (Int × ((List (List Int)) × (List (List Int))))), (1 : Int))
else
let v4 : Int := (a2.length : Int)
Option.bind (lp0 (a2, v4, (0 : Int), a0, a1, ([] : List (Int × ((List (List Int)) × (List (List Int))))), (0 : Int), (0 : Int))) fun s5 => onSum s5 (fun y6 =>
let v13 : Int := (y6.2.2.2.1.length : Int)
let v14 : Int := (y6.2.2.2.2.1.length : Int)
Option.bind (f26 v13 v14 y6.2.2.2.2.2.2.1 y6.2.2.2.2.2.2.2 y6.2.2.2.2.2.1 y6.2.2.2.1 y6.2.2.2.2.1) fun y15 =>
some (y15.2.2.1, (0 : Int))) (fun o12 => some o12)
-- tatting/edit.Pairs
def F9_0 (f11 : (List (Int × ((List (List Int)) × (List (List Int))))) → Option (Bool)) (f28 : Int → Int → Int → (List (Int × Int)) → Option (Int × Int × (List (Int × Int)))) (self : (Int × (List (Int × ((List (List Int)) × (List (List Int))))) × Int × Int × (List (Int × Int)) × Int × Int) → Option ((Int × (List (Int × ((List (List Int)) × (List (List Int))))) × Int × Int × (List (Int × Int)) × Int × Int) ⊕ ((List (Int × Int)) × Int))) (z8 : Int × (List (Int × ((List (List Int)) × (List (List Int))))) × Int × Int × (List (Int × Int)) × Int × Int) : Option ((Int × (List (Int × ((List (List Int)) × (List (List Int))))) × Int × Int × (List (Int × Int)) × Int × Int) ⊕ ((List (Int × Int)) × Int)) :=
let v9 : Bool := decide (z8.2.2.2.1 < z8.2.2.1)
bif v9 then
if 0 ≤ z8.2.2.2.1 ∧ z8.2.2.2.1 < (z8.2.1.length : Int) then
let v10 : (Int × ((List (List Int)) × (List (List Int)))) := z8.2.1.getD z8.2.2.2.1.toNat ((0 : Int), (([] : List (List Int)), ([] : List (List Int))))
let v11 : Int := (v10.2.1.length : Int)
let v12 : Int := IntKind.wrap .i64 (v10.1 + v11)
let v13 : Bool := decide (v12 > z8.1)
bif v13 then
some (.inr (([] : List (Int × Int)), (1 : Int)))
else
Option.bind (f28 v10.1 z8.2.2.2.2.2.1 z8.2.2.2.2.2.2 z8.2.2.2.2.1) fun y14 =>
let v15 : Int := (v10.2.1.length : Int)
let v16 : Int := IntKind.wrap .i64 (y14.1 + v15)
let v17 : Int := (v10.2.2.length : Int)
let v18 : Int := IntKind.wrap .i64 (y14.2.1 + v17)
let v19 : Int := IntKind.wrap .i64 (z8.2.2.2.1 + (1 : Int))
self (z8.1, z8.2.1, z8.2.2.1, v19, y14.2.2, v16, v18)
else none
else
some (.inl (z8.1, z8.2.1, z8.2.2.1, z8.2.2.2.1, z8.2.2.2.2.1, z8.2.2.2.2.2.1, z8.2.2.2.2.2.2))
def r9 (f11 : (List (Int × ((List (List Int)) × (List (List Int))))) → Option (Bool)) (f28 : Int → Int → Int → (List (Int × Int)) → Option (Int × Int × (List (Int × Int)))) (lp0 : (Int × (List (Int × ((List (List Int)) × (List (List Int))))) × Int × Int × (List (Int × Int)) × Int × Int) → Option ((Int × (List (Int × ((List (List Int)) × (List (List Int))))) × Int × Int × (List (Int × Int)) × Int × Int) ⊕ ((List (Int × Int)) × Int))) (a0 : Int) (a1 : (List (Int × ((List (List Int)) × (List (List Int)))))) : Option ((List (Int × Int)) × Int) :=
Option.bind (f11 a1) fun y1 =>
let v2 : Bool := !y1
bif v2 == false then
let v3 : Bool := decide (a0 < (0 : Int))
bif v3 == false then
let v4 : Bool := decide (a0 > (1048576 : Int))
bif v4 then
some (([] : List (Int × Int)), (1 : Int))
else
let v5 : Int := (a1.length : Int)
Option.bind (lp0 (a0, a1, v5, (0 : Int), ([] : List (Int × Int)), (0 : Int), (0 : Int))) fun s6 => onSum s6 (fun y7 =>
Option.bind (f28 y7.1 y7.2.2.2.2.2.1 y7.2.2.2.2.2.2 y7.2.2.2.2.1) fun y21 =>
some (y21.2.2, (0 : Int))) (fun o20 => some o20)
else
some (([] : List (Int × Int)), (1 : Int))
else
some (([] : List (Int × Int)), (1 : Int))
-- tatting/tattinglaw24.awake
def r10 (f8 : (List (List Int)) → (List (List Int)) → (List (Int × Int)) → Option ((List (Int × ((List (List Int)) × (List (List Int))))) × Int)) (f9 : Int → (List (Int × ((List (List Int)) × (List (List Int))))) → Option ((List (Int × Int)) × Int)) (f11 : (List (Int × ((List (List Int)) × (List (List Int))))) → Option (Bool)) (f17 : (List (Int × ((List (List Int)) × (List (List Int))))) → Option (Int × Int)) (_ : Unit) : Option (Bool) :=
let v1 : (List Int) := ([(97 : Int)] : List Int)
if 0 < v1.length then
let v2 : (List Int) := ([(98 : Int)] : List Int)
if 0 < v2.length then
let v3 : (List (List Int)) := ([v1, v2] : List (List Int))
let v4 : (List Int) := ([(98 : Int)] : List Int)
if 0 < v4.length then
let v5 : (List Int) := ([(99 : Int)] : List Int)
if 0 < v5.length then
let v6 : (List (List Int)) := ([v4, v5] : List (List Int))
let v7 : (Int × Int) := ((1 : Int), (0 : Int))
let v8 : (List (Int × Int)) := ([v7] : List (Int × Int))
Option.bind (f8 v3 v6 v8) fun y9 =>
Option.bind (f9 (2 : Int) y9.1) fun y10 =>
Option.bind (f17 y9.1) fun y11 =>
let v12 : Bool := decide (y9.2 = (0 : Int))
bif v12 == true then
let v13 : Int := (y9.1.length : Int)
let v14 : Bool := decide (v13 = (2 : Int))
bif v14 == true then
if 0 ≤ (0 : Int) ∧ (0 : Int) < (y9.1.length : Int) then
let v15 : (Int × ((List (List Int)) × (List (List Int)))) := y9.1.getD (0 : Int).toNat ((0 : Int), (([] : List (List Int)), ([] : List (List Int))))
let v16 : Bool := decide (v15.1 = (0 : Int))
bif v16 == true then
if 0 ≤ (0 : Int) ∧ (0 : Int) < (y9.1.length : Int) then
let v17 : (Int × ((List (List Int)) × (List (List Int)))) := y9.1.getD (0 : Int).toNat ((0 : Int), (([] : List (List Int)), ([] : List (List Int))))
let v18 : Int := (v17.2.1.length : Int)
let v19 : Bool := decide (v18 = (1 : Int))
bif v19 == true then
if 0 ≤ (1 : Int) ∧ (1 : Int) < (y9.1.length : Int) then
let v20 : (Int × ((List (List Int)) × (List (List Int)))) := y9.1.getD (1 : Int).toNat ((0 : Int), (([] : List (List Int)), ([] : List (List Int))))
let v21 : Bool := decide (v20.1 = (2 : Int))
bif v21 == true then
if 0 ≤ (1 : Int) ∧ (1 : Int) < (y9.1.length : Int) then
let v22 : (Int × ((List (List Int)) × (List (List Int)))) := y9.1.getD (1 : Int).toNat ((0 : Int), (([] : List (List Int)), ([] : List (List Int))))
let v23 : Int := (v22.2.2.length : Int)
let v24 : Bool := decide (v23 = (1 : Int))
bif v24 == true then
Option.bind (f11 y9.1) fun y25 =>
bif y25 == true then
let v26 : Bool := decide (y10.2 = (0 : Int))
bif v26 == true then
let v27 : Int := (y10.1.length : Int)
let v28 : Bool := decide (v27 = (1 : Int))
bif v28 == true then
let v29 : Bool := decide (y11.1 = (1 : Int))
bif v29 == true then
let v30 : Bool := decide (y11.2 = (1 : Int))
some v30
else
some false
else
some false
else
some false
else
some false
else
some false
else none
else
some false
else none
else
some false
else none
else
some false
else none
else
some false
else
some false
else none
else none
else none
else none
-- tatting/edit.Good
def F11_0 (f29 : (List (List Int)) → Option (Bool)) (self : (Int × (List (Int × ((List (List Int)) × (List (List Int))))) × Int × Int) → Option ((Int × (List (Int × ((List (List Int)) × (List (List Int))))) × Int × Int) ⊕ (Bool))) (z4 : Int × (List (Int × ((List (List Int)) × (List (List Int))))) × Int × Int) : Option ((Int × (List (Int × ((List (List Int)) × (List (List Int))))) × Int × Int) ⊕ (Bool)) :=
let v5 : Bool := decide (z4.2.2.2 < z4.2.2.1)
bif v5 then
if 0 ≤ z4.2.2.2 ∧ z4.2.2.2 < (z4.2.1.length : Int) then
let v6 : (Int × ((List (List Int)) × (List (List Int)))) := z4.2.1.getD z4.2.2.2.toNat ((0 : Int), (([] : List (List Int)), ([] : List (List Int))))
let v7 : Bool := decide (v6.1 ≤ z4.1)
bif v7 == false then
let v8 : Bool := decide (v6.1 > (1048576 : Int))
bif v8 == false then
let v9 : Int := (v6.2.1.length : Int)
let v10 : Int := (v6.2.2.length : Int)
let v11 : Int := IntKind.wrap .i64 (v9 + v10)
let v12 : Bool := decide (v11 = (0 : Int))
bif v12 == false then
Option.bind (f29 v6.2.1) fun y13 =>
let v14 : Bool := !y13
bif v14 == false then
Option.bind (f29 v6.2.2) fun y15 =>
let v16 : Bool := !y15
bif v16 then
some (.inr false)
else
let v17 : Int := (v6.2.1.length : Int)
let v18 : Int := IntKind.wrap .i64 (v6.1 + v17)
let v19 : Int := IntKind.wrap .i64 (z4.2.2.2 + (1 : Int))
self (v18, z4.2.1, z4.2.2.1, v19)
else
some (.inr false)
else
some (.inr false)
else
some (.inr false)
else
some (.inr false)
else none
else
some (.inl (z4.1, z4.2.1, z4.2.2.1, z4.2.2.2))
def r11 (f29 : (List (List Int)) → Option (Bool)) (lp0 : (Int × (List (Int × ((List (List Int)) × (List (List Int))))) × Int × Int) → Option ((Int × (List (Int × ((List (List Int)) × (List (List Int))))) × Int × Int) ⊕ (Bool))) (a0 : (List (Int × ((List (List Int)) × (List (List Int)))))) : Option (Bool) :=
let v1 : Int := (a0.length : Int)
Option.bind (lp0 ((-1 : Int), a0, v1, (0 : Int))) fun s2 => onSum s2 (fun y3 =>
some true) (fun o20 => some o20)
-- tatting/tattingref1.SamePairs
def F12_0 (self : ((List (Int × Int)) × (List (Int × Int)) × Int) → Option (((List (Int × Int)) × (List (Int × Int)) × Int) ⊕ (Bool))) (z6 : (List (Int × Int)) × (List (Int × Int)) × Int) : Option (((List (Int × Int)) × (List (Int × Int)) × Int) ⊕ (Bool)) :=
let v7 : Int := (z6.1.length : Int)
let v8 : Bool := decide (z6.2.2 < v7)
bif v8 then
if 0 ≤ z6.2.2 ∧ z6.2.2 < (z6.1.length : Int) then
let v9 : (Int × Int) := z6.1.getD z6.2.2.toNat ((0 : Int), (0 : Int))
if 0 ≤ z6.2.2 ∧ z6.2.2 < (z6.2.1.length : Int) then
let v10 : (Int × Int) := z6.2.1.getD z6.2.2.toNat ((0 : Int), (0 : Int))
let v11 : Bool := !((eqInt v9.1 v10.1 && eqInt v9.2 v10.2))
bif v11 then
some (.inr false)
else
let v12 : Int := IntKind.wrap .i64 (z6.2.2 + (1 : Int))
self (z6.1, z6.2.1, v12)
else none
else none
else
some (.inl (z6.1, z6.2.1, z6.2.2))
def r12 (lp0 : ((List (Int × Int)) × (List (Int × Int)) × Int) → Option (((List (Int × Int)) × (List (Int × Int)) × Int) ⊕ (Bool))) (a0 : (List (Int × Int))) (a1 : (List (Int × Int))) : Option (Bool) :=
let v1 : Int := (a0.length : Int)
let v2 : Int := (a1.length : Int)
let v3 : Bool := !decide (v1 = v2)
bif v3 then
some false
else
Option.bind (lp0 (a0, a1, (0 : Int))) fun s4 => onSum s4 (fun y5 =>
some true) (fun o13 => some o13)
-- tatting/tattinglaw24.few
def F13_0 (self : ((List (List Int)) × Int) → Option (((List (List Int)) × Int) ⊕ (Bool))) (z5 : (List (List Int)) × Int) : Option (((List (List Int)) × Int) ⊕ (Bool)) :=
let v6 : Int := (z5.1.length : Int)
let v7 : Bool := decide (z5.2 < v6)
bif v7 then
if 0 ≤ z5.2 ∧ z5.2 < (z5.1.length : Int) then
let v8 : (List Int) := z5.1.getD z5.2.toNat ([] : List Int)
let v9 : Int := (v8.length : Int)
let v10 : Bool := decide (v9 > (30 : Int))
bif v10 then
some (.inr false)
else
let v11 : Int := IntKind.wrap .i64 (z5.2 + (1 : Int))
self (z5.1, v11)
else none
else
some (.inl (z5.1, z5.2))
def r13 (lp0 : ((List (List Int)) × Int) → Option (((List (List Int)) × Int) ⊕ (Bool))) (a0 : (List (List Int))) : Option (Bool) :=
let v1 : Int := (a0.length : Int)
let v2 : Bool := decide (v1 > (30 : Int))
bif v2 then
some false
else
Option.bind (lp0 (a0, (0 : Int))) fun s3 => onSum s3 (fun y4 =>
some true) (fun o12 => some o12)
-- tatting/edit.Count
def F17_0 (self : (Int × Int × (List (Int × ((List (List Int)) × (List (List Int))))) × Int × Int) → Option ((Int × Int × (List (Int × ((List (List Int)) × (List (List Int))))) × Int × Int) ⊕ (Int × Int))) (z4 : Int × Int × (List (Int × ((List (List Int)) × (List (List Int))))) × Int × Int) : Option ((Int × Int × (List (Int × ((List (List Int)) × (List (List Int))))) × Int × Int) ⊕ (Int × Int)) :=
let v5 : Bool := decide (z4.2.2.2.2 < z4.2.2.2.1)
bif v5 then
if 0 ≤ z4.2.2.2.2 ∧ z4.2.2.2.2 < (z4.2.2.1.length : Int) then
let v6 : (Int × ((List (List Int)) × (List (List Int)))) := z4.2.2.1.getD z4.2.2.2.2.toNat ((0 : Int), (([] : List (List Int)), ([] : List (List Int))))
let v7 : Int := (v6.2.1.length : Int)
let v8 : Int := IntKind.wrap .i64 (z4.1 + v7)
let v9 : Int := (v6.2.2.length : Int)
let v10 : Int := IntKind.wrap .i64 (z4.2.1 + v9)
let v11 : Int := IntKind.wrap .i64 (z4.2.2.2.2 + (1 : Int))
self (v8, v10, z4.2.2.1, z4.2.2.2.1, v11)
else none
else
some (.inl (z4.1, z4.2.1, z4.2.2.1, z4.2.2.2.1, z4.2.2.2.2))
def r17 (lp0 : (Int × Int × (List (Int × ((List (List Int)) × (List (List Int))))) × Int × Int) → Option ((Int × Int × (List (Int × ((List (List Int)) × (List (List Int))))) × Int × Int) ⊕ (Int × Int))) (a0 : (List (Int × ((List (List Int)) × (List (List Int)))))) : Option (Int × Int) :=
let v1 : Int := (a0.length : Int)
Option.bind (lp0 ((0 : Int), (0 : Int), a0, v1, (0 : Int))) fun s2 => onSum s2 (fun y3 =>
some (y3.1, y3.2.1)) (fun o12 => some o12)
-- tatting/tattingref1.Two
def r21 (f31 : (List (List Int)) → Option ((List (List Int)))) (f32 : (List (List Int)) → (List (List Int)) → Option ((List Int) × Bool)) (a0 : (List (List Int))) (a1 : (List (List Int))) : Option ((List Int) × (List Int) × Int) :=
let v1 : (List (List Int)) := ([] : List (List Int))
if (v1.length + a0.length) * 24 ≤ 140737488355328 ∧ v1.length + a0.length ≤ 140737488355328 then
let v2 : (List (List Int)) := v1 ++ a0
if (v2.length + a1.length) * 24 ≤ 140737488355328 ∧ v2.length + a1.length ≤ 140737488355328 then
let v3 : (List (List Int)) := v2 ++ a1
Option.bind (f31 v3) fun y4 =>
Option.bind (f32 y4 a0) fun y5 =>
Option.bind (f32 y4 a1) fun y6 =>
let v7 : Int := (y4.length : Int)
some (y5.1, y6.1, v7)
else none
else none
-- tatting/tattingref7.Good
def F22_0 (self : ((List Int) × (List Int) × (List (Int × Int)) × Int) → Option (((List Int) × (List Int) × (List (Int × Int)) × Int) ⊕ (Bool))) (z3 : (List Int) × (List Int) × (List (Int × Int)) × Int) : Option (((List Int) × (List Int) × (List (Int × Int)) × Int) ⊕ (Bool)) :=
let v4 : Int := (z3.2.2.1.length : Int)
let v5 : Bool := decide (z3.2.2.2 < v4)
bif v5 then
if 0 ≤ z3.2.2.2 ∧ z3.2.2.2 < (z3.2.2.1.length : Int) then
let v6 : (Int × Int) := z3.2.2.1.getD z3.2.2.2.toNat ((0 : Int), (0 : Int))
let v7 : Bool := decide (v6.1 < (0 : Int))
bif v7 == false then
let v8 : Int := (z3.1.length : Int)
let v9 : Bool := decide (v6.1 ≥ v8)
bif v9 == false then
let v10 : Bool := decide (v6.2 < (0 : Int))
bif v10 == false then
let v11 : Int := (z3.2.1.length : Int)
let v12 : Bool := decide (v6.2 ≥ v11)
bif v12 == false then
if 0 ≤ v6.1 ∧ v6.1 < (z3.1.length : Int) then
let v13 : Int := z3.1.getD v6.1.toNat (0 : Int)
if 0 ≤ v6.2 ∧ v6.2 < (z3.2.1.length : Int) then
let v14 : Int := z3.2.1.getD v6.2.toNat (0 : Int)
let v15 : Bool := !decide (v13 = v14)
bif v15 then
some (.inr false)
else
let v16 : Bool := decide (z3.2.2.2 > (0 : Int))
bif v16 == true then
let v17 : Int := IntKind.wrap .i64 (z3.2.2.2 - (1 : Int))
if 0 ≤ v17 ∧ v17 < (z3.2.2.1.length : Int) then
let v18 : (Int × Int) := z3.2.2.1.getD v17.toNat ((0 : Int), (0 : Int))
let v19 : Bool := decide (v6.1 ≤ v18.1)
bif v19 == false then
let v20 : Int := IntKind.wrap .i64 (z3.2.2.2 - (1 : Int))
if 0 ≤ v20 ∧ v20 < (z3.2.2.1.length : Int) then
let v21 : (Int × Int) := z3.2.2.1.getD v20.toNat ((0 : Int), (0 : Int))
let v22 : Bool := decide (v6.2 ≤ v21.2)
bif v22 then
some (.inr false)
else
let v23 : Int := IntKind.wrap .i64 (z3.2.2.2 + (1 : Int))
self (z3.1, z3.2.1, z3.2.2.1, v23)
else none
else
some (.inr false)
else none
else
let v24 : Int := IntKind.wrap .i64 (z3.2.2.2 + (1 : Int))
self (z3.1, z3.2.1, z3.2.2.1, v24)
else none
else none
else
some (.inr false)
else
some (.inr false)
else
some (.inr false)
else
some (.inr false)
else none
else
some (.inl (z3.1, z3.2.1, z3.2.2.1, z3.2.2.2))
def r22 (lp0 : ((List Int) × (List Int) × (List (Int × Int)) × Int) → Option (((List Int) × (List Int) × (List (Int × Int)) × Int) ⊕ (Bool))) (a0 : (List Int)) (a1 : (List Int)) (a2 : (List (Int × Int))) : Option (Bool) :=
Option.bind (lp0 (a0, a1, a2, (0 : Int))) fun s1 => onSum s1 (fun y2 =>
some true) (fun o25 => some o25)
-- tatting/tattingref7.Least
def F23_0 (f33 : (List Int) → (List Int) → Option ((List (List Int)))) (f34 : (List Int) → (List Int) → (List (List Int)) → Int → Int → Int → Option (Int × Int)) (self : ((List Int) × (List Int) × (List (List Int)) × Int × Int × Int × (List (Int × Int))) → Option (((List Int) × (List Int) × (List (List Int)) × Int × Int × Int × (List (Int × Int))) ⊕ ((List (Int × Int))))) (z6 : (List Int) × (List Int) × (List (List Int)) × Int × Int × Int × (List (Int × Int))) : Option (((List Int) × (List Int) × (List (List Int)) × Int × Int × Int × (List (Int × Int))) ⊕ ((List (Int × Int)))) :=
let v7 : Bool := decide (z6.2.2.2.2.2.1 > (0 : Int))
bif v7 then
Option.bind (f34 z6.1 z6.2.1 z6.2.2.1 z6.2.2.2.1 z6.2.2.2.2.1 z6.2.2.2.2.2.1) fun y8 =>
let v9 : (Int × Int) := (y8.1, y8.2)
let v10 : (List (Int × Int)) := ([v9] : List (Int × Int))
if (z6.2.2.2.2.2.2.length + v10.length) * 16 ≤ 140737488355328 ∧ z6.2.2.2.2.2.2.length + v10.length ≤ 140737488355328 then
let v11 : (List (Int × Int)) := z6.2.2.2.2.2.2 ++ v10
let v12 : Int := IntKind.wrap .i64 (y8.1 + (1 : Int))
let v13 : Int := IntKind.wrap .i64 (y8.2 + (1 : Int))
let v14 : Int := IntKind.wrap .i64 (z6.2.2.2.2.2.1 - (1 : Int))
self (z6.1, z6.2.1, z6.2.2.1, v12, v13, v14, v11)
else none
else
some (.inl (z6.1, z6.2.1, z6.2.2.1, z6.2.2.2.1, z6.2.2.2.2.1, z6.2.2.2.2.2.1, z6.2.2.2.2.2.2))
def r23 (f33 : (List Int) → (List Int) → Option ((List (List Int)))) (f34 : (List Int) → (List Int) → (List (List Int)) → Int → Int → Int → Option (Int × Int)) (lp0 : ((List Int) × (List Int) × (List (List Int)) × Int × Int × Int × (List (Int × Int))) → Option (((List Int) × (List Int) × (List (List Int)) × Int × Int × Int × (List (Int × Int))) ⊕ ((List (Int × Int))))) (a0 : (List Int)) (a1 : (List Int)) : Option ((List (Int × Int))) :=
Option.bind (f33 a0 a1) fun y1 =>
if 0 ≤ (0 : Int) ∧ (0 : Int) < (y1.length : Int) then
let v2 : (List Int) := y1.getD (0 : Int).toNat ([] : List Int)
if 0 ≤ (0 : Int) ∧ (0 : Int) < (v2.length : Int) then
let v3 : Int := v2.getD (0 : Int).toNat (0 : Int)
Option.bind (lp0 (a0, a1, y1, (0 : Int), (0 : Int), v3, ([] : List (Int × Int)))) fun s4 => onSum s4 (fun y5 =>
some y5.2.2.2.2.2.2) (fun o15 => some o15)
else none
else none
-- tatting/names.Two
def r24 (f35 : (List (List Int)) → Option ((List (List Int)))) (f36 : (List (List (List Int))) → Option ((List (List Int)))) (f37 : (List (List Int)) → (List (List Int)) → Option ((List Int) × Bool)) (a0 : (List (List Int))) (a1 : (List (List Int))) : Option ((List Int) × (List Int) × Int) :=
let v1 : (List (List (List Int))) := ([a0, a1] : List (List (List Int)))
Option.bind (f36 v1) fun y2 =>
Option.bind (f35 y2) fun y3 =>
Option.bind (f37 y3 a0) fun y4 =>
Option.bind (f37 y3 a1) fun y5 =>
let v6 : Int := (y3.length : Int)
some (y4.1, y5.1, v6)
-- tatting/pairs.Good
def F25_0 (f38 : (List Int) → Int → Option (Bool)) (self : ((List Int) × (List Int) × (List (Int × Int)) × Int × Int × (Int × Int)) → Option (((List Int) × (List Int) × (List (Int × Int)) × Int × Int × (Int × Int)) ⊕ (Bool))) (z5 : (List Int) × (List Int) × (List (Int × Int)) × Int × Int × (Int × Int)) : Option (((List Int) × (List Int) × (List (Int × Int)) × Int × Int × (Int × Int)) ⊕ (Bool)) :=
let v6 : Bool := decide (z5.2.2.2.2.1 < z5.2.2.2.1)
bif v6 then
if 0 ≤ z5.2.2.2.2.1 ∧ z5.2.2.2.2.1 < (z5.2.2.1.length : Int) then
let v7 : (Int × Int) := z5.2.2.1.getD z5.2.2.2.2.1.toNat ((0 : Int), (0 : Int))
Option.bind (f38 z5.1 v7.1) fun y8 =>
let v9 : Bool := !y8
bif v9 == false then
Option.bind (f38 z5.2.1 v7.2) fun y10 =>
let v11 : Bool := !y10
bif v11 == false then
if 0 ≤ v7.1 ∧ v7.1 < (z5.1.length : Int) then
let v12 : Int := z5.1.getD v7.1.toNat (0 : Int)
if 0 ≤ v7.2 ∧ v7.2 < (z5.2.1.length : Int) then
let v13 : Int := z5.2.1.getD v7.2.toNat (0 : Int)
let v14 : Bool := !decide (v12 = v13)
bif v14 == false then
let v15 : Bool := decide (v7.1 ≤ z5.2.2.2.2.2.1)
bif v15 == false then
let v16 : Bool := decide (v7.2 ≤ z5.2.2.2.2.2.2)
bif v16 then
some (.inr false)
else
let v17 : Int := IntKind.wrap .i64 (z5.2.2.2.2.1 + (1 : Int))
self (z5.1, z5.2.1, z5.2.2.1, z5.2.2.2.1, v17, v7)
else
some (.inr false)
else
some (.inr false)
else none
else none
else
some (.inr false)
else
some (.inr false)
else none
else
some (.inl (z5.1, z5.2.1, z5.2.2.1, z5.2.2.2.1, z5.2.2.2.2.1, z5.2.2.2.2.2))
def r25 (f38 : (List Int) → Int → Option (Bool)) (lp0 : ((List Int) × (List Int) × (List (Int × Int)) × Int × Int × (Int × Int)) → Option (((List Int) × (List Int) × (List (Int × Int)) × Int × Int × (Int × Int)) ⊕ (Bool))) (a0 : (List Int)) (a1 : (List Int)) (a2 : (List (Int × Int))) : Option (Bool) :=
let v1 : (Int × Int) := ((-1 : Int), (-1 : Int))
let v2 : Int := (a2.length : Int)
Option.bind (lp0 (a0, a1, a2, v2, (0 : Int), v1)) fun s3 => onSum s3 (fun y4 =>
some true) (fun o18 => some o18)
-- tatting/edit.Make$1
def r26 (f27 : (List (List Int)) → Option ((List (List Int)))) (a0 : Int) (a1 : Int) (a2 : Int) (a3 : Int) (a4 : (List (Int × ((List (List Int)) × (List (List Int)))))) (a5 : (List (List Int))) (a6 : (List (List Int))) : Option (Int × Int × (List (Int × ((List (List Int)) × (List (List Int))))) × (List (List Int)) × (List (List Int))) :=
let v1 : Bool := decide (a2 < a0)
bif v1 == false then
let v2 : Bool := decide (a3 < a1)
bif v2 then
if 0 ≤ a2 ∧ a2 ≤ a0 ∧ a0 ≤ (a5.length : Int) then
let v3 : (List (List Int)) := cut a5 a2 a0
Option.bind (f27 v3) fun y4 =>
if 0 ≤ a3 ∧ a3 ≤ a1 ∧ a1 ≤ (a6.length : Int) then
let v5 : (List (List Int)) := cut a6 a3 a1
Option.bind (f27 v5) fun y6 =>
let v7 : (Int × ((List (List Int)) × (List (List Int)))) := (a2, (y4, y6))
let v8 : (List (Int × ((List (List Int)) × (List (List Int))))) := ([v7] : List (Int × ((List (List Int)) × (List (List Int)))))
if (a4.length + v8.length) * 56 ≤ 140737488355328 ∧ a4.length + v8.length ≤ 140737488355328 then
let v9 : (List (Int × ((List (List Int)) × (List (List Int))))) := a4 ++ v8
let v10 : Int := IntKind.wrap .i64 (a0 + (1 : Int))
let v11 : Int := IntKind.wrap .i64 (a1 + (1 : Int))
some (v10, v11, v9, a5, a6)
else none
else none
else none
else
let v12 : Int := IntKind.wrap .i64 (a0 + (1 : Int))
let v13 : Int := IntKind.wrap .i64 (a1 + (1 : Int))
some (v12, v13, a4, a5, a6)
else
if 0 ≤ a2 ∧ a2 ≤ a0 ∧ a0 ≤ (a5.length : Int) then
let v14 : (List (List Int)) := cut a5 a2 a0
Option.bind (f27 v14) fun y15 =>
if 0 ≤ a3 ∧ a3 ≤ a1 ∧ a1 ≤ (a6.length : Int) then
let v16 : (List (List Int)) := cut a6 a3 a1
Option.bind (f27 v16) fun y17 =>
let v18 : (Int × ((List (List Int)) × (List (List Int)))) := (a2, (y15, y17))
let v19 : (List (Int × ((List (List Int)) × (List (List Int))))) := ([v18] : List (Int × ((List (List Int)) × (List (List Int)))))
if (a4.length + v19.length) * 56 ≤ 140737488355328 ∧ a4.length + v19.length ≤ 140737488355328 then
let v20 : (List (Int × ((List (List Int)) × (List (List Int))))) := a4 ++ v19
let v21 : Int := IntKind.wrap .i64 (a0 + (1 : Int))
let v22 : Int := IntKind.wrap .i64 (a1 + (1 : Int))
some (v21, v22, v20, a5, a6)
else none
else none
else none
-- tatting/edit.tokens
def F27_0 (f39 : (List Int) → Option ((List Int))) (self : ((List (List Int)) × Int × Int × (List (List Int))) → Option (((List (List Int)) × Int × Int × (List (List Int))) ⊕ ((List (List Int))))) (z4 : (List (List Int)) × Int × Int × (List (List Int))) : Option (((List (List Int)) × Int × Int × (List (List Int))) ⊕ ((List (List Int)))) :=
let v5 : Bool := decide (z4.2.2.1 < z4.2.1)
bif v5 then
if 0 ≤ z4.2.2.1 ∧ z4.2.2.1 < (z4.1.length : Int) then
let v6 : (List Int) := z4.1.getD z4.2.2.1.toNat ([] : List Int)
Option.bind (f39 v6) fun y7 =>
let v8 : (List (List Int)) := ([y7] : List (List Int))
if (z4.2.2.2.length + v8.length) * 24 ≤ 140737488355328 ∧ z4.2.2.2.length + v8.length ≤ 140737488355328 then
let v9 : (List (List Int)) := z4.2.2.2 ++ v8
let v10 : Int := IntKind.wrap .i64 (z4.2.2.1 + (1 : Int))
self (z4.1, z4.2.1, v10, v9)
else none
else none
else
some (.inl (z4.1, z4.2.1, z4.2.2.1, z4.2.2.2))
def r27 (f39 : (List Int) → Option ((List Int))) (lp0 : ((List (List Int)) × Int × Int × (List (List Int))) → Option (((List (List Int)) × Int × Int × (List (List Int))) ⊕ ((List (List Int))))) (a0 : (List (List Int))) : Option ((List (List Int))) :=
let v1 : Int := (a0.length : Int)
Option.bind (lp0 (a0, v1, (0 : Int), ([] : List (List Int)))) fun s2 => onSum s2 (fun y3 =>
some y3.2.2.2) (fun o11 => some o11)
-- tatting/edit.Pairs$1
def F28_0 (self : (Int × Int × Int × (List (Int × Int))) → Option ((Int × Int × Int × (List (Int × Int))) ⊕ (Int × Int × (List (Int × Int))))) (z3 : Int × Int × Int × (List (Int × Int))) : Option ((Int × Int × Int × (List (Int × Int))) ⊕ (Int × Int × (List (Int × Int)))) :=
let v4 : Bool := decide (z3.2.1 < z3.1)
bif v4 then
let v5 : (Int × Int) := (z3.2.1, z3.2.2.1)
let v6 : (List (Int × Int)) := ([v5] : List (Int × Int))
if (z3.2.2.2.length + v6.length) * 16 ≤ 140737488355328 ∧ z3.2.2.2.length + v6.length ≤ 140737488355328 then
let v7 : (List (Int × Int)) := z3.2.2.2 ++ v6
let v8 : Int := IntKind.wrap .i64 (z3.2.1 + (1 : Int))
let v9 : Int := IntKind.wrap .i64 (z3.2.2.1 + (1 : Int))
self (z3.1, v8, v9, v7)
else none
else
some (.inl (z3.1, z3.2.1, z3.2.2.1, z3.2.2.2))
def r28 (lp0 : (Int × Int × Int × (List (Int × Int))) → Option ((Int × Int × Int × (List (Int × Int))) ⊕ (Int × Int × (List (Int × Int))))) (a0 : Int) (a1 : Int) (a2 : Int) (a3 : (List (Int × Int))) : Option (Int × Int × (List (Int × Int))) :=
Option.bind (lp0 (a0, a1, a2, a3)) fun s1 => onSum s1 (fun y2 =>
some (y2.2.1, y2.2.2.1, y2.2.2.2)) (fun o10 => some o10)
-- tatting/edit.all
def F29_0 (self : ((List (List Int)) × Int × Int) → Option (((List (List Int)) × Int × Int) ⊕ (Bool))) (z4 : (List (List Int)) × Int × Int) : Option (((List (List Int)) × Int × Int) ⊕ (Bool)) :=
let v5 : Bool := decide (z4.2.2 < z4.2.1)
bif v5 then
if 0 ≤ z4.2.2 ∧ z4.2.2 < (z4.1.length : Int) then
let v6 : (List Int) := z4.1.getD z4.2.2.toNat ([] : List Int)
let v7 : Int := (v6.length : Int)
let v8 : Bool := decide (v7 = (0 : Int))
bif v8 then
some (.inr false)
else
let v9 : Int := IntKind.wrap .i64 (z4.2.2 + (1 : Int))
self (z4.1, z4.2.1, v9)
else none
else
some (.inl (z4.1, z4.2.1, z4.2.2))
def r29 (lp0 : ((List (List Int)) × Int × Int) → Option (((List (List Int)) × Int × Int) ⊕ (Bool))) (a0 : (List (List Int))) : Option (Bool) :=
let v1 : Int := (a0.length : Int)
Option.bind (lp0 (a0, v1, (0 : Int))) fun s2 => onSum s2 (fun y3 =>
some true) (fun o10 => some o10)
-- tatting/tattingref1.Sort
def F31_0 (f40 : (List Int) → (List Int) → Option (Bool)) (f41 : (List Int) → (List Int) → Option (Bool)) (self : ((List (List Int)) × Int × Int × (List (List Int))) → Option (((List (List Int)) × Int × Int × (List (List Int))) ⊕ ((List (List Int))))) (z8 : (List (List Int)) × Int × Int × (List (List Int))) : Option (((List (List Int)) × Int × Int × (List (List Int))) ⊕ ((List (List Int)))) :=
let v9 : Int := (z8.2.2.2.length : Int)
let v10 : Bool := decide (z8.2.2.1 < v9)
bif v10 == true then
if 0 ≤ z8.2.2.1 ∧ z8.2.2.1 < (z8.2.2.2.length : Int) then
let v11 : (List Int) := (z8.2.2.2.getD z8.2.2.1.toNat ([] : List Int))
if 0 ≤ z8.2.1 ∧ z8.2.1 < (z8.1.length : Int) then
let v12 : (List Int) := z8.1.getD z8.2.1.toNat ([] : List Int)
Option.bind (f40 v11 v12) fun y13 =>
bif y13 then
let v14 : Int := IntKind.wrap .i64 (z8.2.2.1 + (1 : Int))
self (z8.1, z8.2.1, v14, z8.2.2.2)
else
some (.inl (z8.1, z8.2.1, z8.2.2.1, z8.2.2.2))
else none
else none
else
some (.inl (z8.1, z8.2.1, z8.2.2.1, z8.2.2.2))
def F31_1 (f40 : (List Int) → (List Int) → Option (Bool)) (f41 : (List Int) → (List Int) → Option (Bool)) (lp0 : ((List (List Int)) × Int × Int × (List (List Int))) → Option (((List (List Int)) × Int × Int × (List (List Int))) ⊕ ((List (List Int))))) (self : ((List (List Int)) × Int × (List (List Int))) → Option (((List (List Int)) × Int × (List (List Int))) ⊕ ((List (List Int))))) (z3 : (List (List Int)) × Int × (List (List Int))) : Option (((List (List Int)) × Int × (List (List Int))) ⊕ ((List (List Int)))) :=
let v4 : Int := (z3.1.length : Int)
let v5 : Bool := decide (z3.2.1 < v4)
bif v5 then
Option.bind (lp0 (z3.1, z3.2.1, (0 : Int), z3.2.2)) fun s6 => onSum s6 (fun y7 =>
let v16 : Int := (y7.2.2.2.length : Int)
let v17 : Bool := decide (y7.2.2.1 < v16)
bif v17 == true then
if 0 ≤ y7.2.2.1 ∧ y7.2.2.1 < (y7.2.2.2.length : Int) then
let v18 : (List Int) := (y7.2.2.2.getD y7.2.2.1.toNat ([] : List Int))
if 0 ≤ y7.2.1 ∧ y7.2.1 < (y7.1.length : Int) then
let v19 : (List Int) := y7.1.getD y7.2.1.toNat ([] : List Int)
Option.bind (f41 v18 v19) fun y20 =>
bif y20 then
let v21 : Int := IntKind.wrap .i64 (y7.2.1 + (1 : Int))
self (y7.1, v21, y7.2.2.2)
else
let v22 : (List (List Int)) := ([] : List (List Int))
if 0 ≤ (0 : Int) ∧ (0 : Int) ≤ y7.2.2.1 ∧ y7.2.2.1 ≤ (y7.2.2.2.length : Int) then
let v23 : (List (List Int)) := cut y7.2.2.2 (0 : Int) y7.2.2.1
if (v22.length + v23.length) * 24 ≤ 140737488355328 ∧ v22.length + v23.length ≤ 140737488355328 then
let v24 : (List (List Int)) := v22 ++ v23
if 0 ≤ y7.2.1 ∧ y7.2.1 < (y7.1.length : Int) then
let v25 : (List Int) := y7.1.getD y7.2.1.toNat ([] : List Int)
let v26 : (List (List Int)) := ([v25] : List (List Int))
if (v24.length + v26.length) * 24 ≤ 140737488355328 ∧ v24.length + v26.length ≤ 140737488355328 then
let v27 : (List (List Int)) := v24 ++ v26
if 0 ≤ y7.2.2.1 ∧ y7.2.2.1 ≤ (y7.2.2.2.length : Int) ∧ (y7.2.2.2.length : Int) ≤ (y7.2.2.2.length : Int) then
let v28 : (List (List Int)) := cut y7.2.2.2 y7.2.2.1 (y7.2.2.2.length : Int)
if (v27.length + v28.length) * 24 ≤ 140737488355328 ∧ v27.length + v28.length ≤ 140737488355328 then
let v29 : (List (List Int)) := v27 ++ v28
let v30 : Int := IntKind.wrap .i64 (y7.2.1 + (1 : Int))
self (y7.1, v30, v29)
else none
else none
else none
else none
else none
else none
else none
else none
else
let v31 : (List (List Int)) := ([] : List (List Int))
if 0 ≤ (0 : Int) ∧ (0 : Int) ≤ y7.2.2.1 ∧ y7.2.2.1 ≤ (y7.2.2.2.length : Int) then
let v32 : (List (List Int)) := cut y7.2.2.2 (0 : Int) y7.2.2.1
if (v31.length + v32.length) * 24 ≤ 140737488355328 ∧ v31.length + v32.length ≤ 140737488355328 then
let v33 : (List (List Int)) := v31 ++ v32
if 0 ≤ y7.2.1 ∧ y7.2.1 < (y7.1.length : Int) then
let v34 : (List Int) := y7.1.getD y7.2.1.toNat ([] : List Int)
let v35 : (List (List Int)) := ([v34] : List (List Int))
if (v33.length + v35.length) * 24 ≤ 140737488355328 ∧ v33.length + v35.length ≤ 140737488355328 then
let v36 : (List (List Int)) := v33 ++ v35
if 0 ≤ y7.2.2.1 ∧ y7.2.2.1 ≤ (y7.2.2.2.length : Int) ∧ (y7.2.2.2.length : Int) ≤ (y7.2.2.2.length : Int) then
let v37 : (List (List Int)) := cut y7.2.2.2 y7.2.2.1 (y7.2.2.2.length : Int)
if (v36.length + v37.length) * 24 ≤ 140737488355328 ∧ v36.length + v37.length ≤ 140737488355328 then
let v38 : (List (List Int)) := v36 ++ v37
let v39 : Int := IntKind.wrap .i64 (y7.2.1 + (1 : Int))
self (y7.1, v39, v38)
else none
else none
else none
else none
else none
else none) (fun o15 => some (.inr o15))
else
some (.inl (z3.1, z3.2.1, z3.2.2))
def r31 (f40 : (List Int) → (List Int) → Option (Bool)) (f41 : (List Int) → (List Int) → Option (Bool)) (lp0 : ((List (List Int)) × Int × Int × (List (List Int))) → Option (((List (List Int)) × Int × Int × (List (List Int))) ⊕ ((List (List Int))))) (lp1 : ((List (List Int)) × Int × (List (List Int))) → Option (((List (List Int)) × Int × (List (List Int))) ⊕ ((List (List Int))))) (a0 : (List (List Int))) : Option ((List (List Int))) :=
Option.bind (lp1 (a0, (0 : Int), ([] : List (List Int)))) fun s1 => onSum s1 (fun y2 =>
some y2.2.2) (fun o40 => some o40)
-- tatting/tattingref1.Ids
def F32_0 (f42 : (List (List Int)) → (List Int) → Option (Int × Bool)) (self : ((List (List Int)) × (List (List Int)) × Int × (List Int)) → Option (((List (List Int)) × (List (List Int)) × Int × (List Int)) ⊕ ((List Int) × Bool))) (z3 : (List (List Int)) × (List (List Int)) × Int × (List Int)) : Option (((List (List Int)) × (List (List Int)) × Int × (List Int)) ⊕ ((List Int) × Bool)) :=
let v4 : Int := (z3.2.1.length : Int)
let v5 : Bool := decide (z3.2.2.1 < v4)
bif v5 then
if 0 ≤ z3.2.2.1 ∧ z3.2.2.1 < (z3.2.1.length : Int) then
let v6 : (List Int) := z3.2.1.getD z3.2.2.1.toNat ([] : List Int)
Option.bind (f42 z3.1 v6) fun y7 =>
let v8 : Bool := !y7.2
bif v8 then
some (.inr (([] : List Int), false))
else
let v9 : (List Int) := ([y7.1] : List Int)
if (z3.2.2.2.length + v9.length) * 8 ≤ 140737488355328 ∧ z3.2.2.2.length + v9.length ≤ 140737488355328 then
let v10 : (List Int) := z3.2.2.2 ++ v9
let v11 : Int := IntKind.wrap .i64 (z3.2.2.1 + (1 : Int))
self (z3.1, z3.2.1, v11, v10)
else none
else none
else
some (.inl (z3.1, z3.2.1, z3.2.2.1, z3.2.2.2))
def r32 (f42 : (List (List Int)) → (List Int) → Option (Int × Bool)) (lp0 : ((List (List Int)) × (List (List Int)) × Int × (List Int)) → Option (((List (List Int)) × (List (List Int)) × Int × (List Int)) ⊕ ((List Int) × Bool))) (a0 : (List (List Int))) (a1 : (List (List Int))) : Option ((List Int) × Bool) :=
Option.bind (lp0 (a0, a1, (0 : Int), ([] : List Int))) fun s1 => onSum s1 (fun y2 =>
some (y2.2.2.2, true)) (fun o12 => some o12)
-- tatting/tattingref7.first
def F34_0 (self : ((List Int) × (List Int) × (List (List Int)) × Int × Int × Int × Int) → Option (((List Int) × (List Int) × (List (List Int)) × Int × Int × Int × Int) ⊕ (Int × Int))) (z8 : (List Int) × (List Int) × (List (List Int)) × Int × Int × Int × Int) : Option (((List Int) × (List Int) × (List (List Int)) × Int × Int × Int × Int) ⊕ (Int × Int)) :=
let v9 : Int := (z8.2.1.length : Int)
let v10 : Bool := decide (z8.2.2.2.2.2.2 < v9)
bif v10 then
if 0 ≤ z8.2.2.2.2.2.1 ∧ z8.2.2.2.2.2.1 < (z8.1.length : Int) then
let v11 : Int := z8.1.getD z8.2.2.2.2.2.1.toNat (0 : Int)
if 0 ≤ z8.2.2.2.2.2.2 ∧ z8.2.2.2.2.2.2 < (z8.2.1.length : Int) then
let v12 : Int := z8.2.1.getD z8.2.2.2.2.2.2.toNat (0 : Int)
let v13 : Bool := decide (v11 = v12)
bif v13 == true then
let v14 : Int := IntKind.wrap .i64 (z8.2.2.2.2.2.1 + (1 : Int))
if 0 ≤ v14 ∧ v14 < (z8.2.2.1.length : Int) then
let v15 : (List Int) := z8.2.2.1.getD v14.toNat ([] : List Int)
let v16 : Int := IntKind.wrap .i64 (z8.2.2.2.2.2.2 + (1 : Int))
if 0 ≤ v16 ∧ v16 < (v15.length : Int) then
let v17 : Int := v15.getD v16.toNat (0 : Int)
let v18 : Int := IntKind.wrap .i64 (z8.2.2.2.2.1 - (1 : Int))
let v19 : Bool := decide (v17 = v18)
bif v19 then
some (.inr (z8.2.2.2.2.2.1, z8.2.2.2.2.2.2))
else
let v20 : Int := IntKind.wrap .i64 (z8.2.2.2.2.2.2 + (1 : Int))
self (z8.1, z8.2.1, z8.2.2.1, z8.2.2.2.1, z8.2.2.2.2.1, z8.2.2.2.2.2.1, v20)
else none
else none
else
let v21 : Int := IntKind.wrap .i64 (z8.2.2.2.2.2.2 + (1 : Int))
self (z8.1, z8.2.1, z8.2.2.1, z8.2.2.2.1, z8.2.2.2.2.1, z8.2.2.2.2.2.1, v21)
else none
else none
else
some (.inl (z8.1, z8.2.1, z8.2.2.1, z8.2.2.2.1, z8.2.2.2.2.1, z8.2.2.2.2.2.1, z8.2.2.2.2.2.2))
def F34_1 (lp0 : ((List Int) × (List Int) × (List (List Int)) × Int × Int × Int × Int) → Option (((List Int) × (List Int) × (List (List Int)) × Int × Int × Int × Int) ⊕ (Int × Int))) (self : ((List Int) × (List Int) × (List (List Int)) × Int × Int × Int) → Option (((List Int) × (List Int) × (List (List Int)) × Int × Int × Int) ⊕ (Int × Int))) (z3 : (List Int) × (List Int) × (List (List Int)) × Int × Int × Int) : Option (((List Int) × (List Int) × (List (List Int)) × Int × Int × Int) ⊕ (Int × Int)) :=
let v4 : Int := (z3.1.length : Int)
let v5 : Bool := decide (z3.2.2.2.2.2 < v4)
bif v5 then
Option.bind (lp0 (z3.1, z3.2.1, z3.2.2.1, z3.2.2.2.1, z3.2.2.2.2.1, z3.2.2.2.2.2, z3.2.2.2.1)) fun s6 => onSum s6 (fun y7 =>
let v23 : Int := IntKind.wrap .i64 (y7.2.2.2.2.2.1 + (1 : Int))
self (y7.1, y7.2.1, y7.2.2.1, y7.2.2.2.1, y7.2.2.2.2.1, v23)) (fun o22 => some (.inr o22))
else
some (.inl (z3.1, z3.2.1, z3.2.2.1, z3.2.2.2.1, z3.2.2.2.2.1, z3.2.2.2.2.2))
def r34 (lp0 : ((List Int) × (List Int) × (List (List Int)) × Int × Int × Int × Int) → Option (((List Int) × (List Int) × (List (List Int)) × Int × Int × Int × Int) ⊕ (Int × Int))) (lp1 : ((List Int) × (List Int) × (List (List Int)) × Int × Int × Int) → Option (((List Int) × (List Int) × (List (List Int)) × Int × Int × Int) ⊕ (Int × Int))) (a0 : (List Int)) (a1 : (List Int)) (a2 : (List (List Int))) (a3 : Int) (a4 : Int) (a5 : Int) : Option (Int × Int) :=
Option.bind (lp1 (a0, a1, a2, a4, a5, a3)) fun s1 => onSum s1 (fun y2 =>
let v25 : Int := (y2.1.length : Int)
let v26 : Int := (y2.2.1.length : Int)
some (v25, v26)) (fun o24 => some o24)
-- tatting/names.Sort
def F35_0 (f39 : (List Int) → Option ((List Int))) (f43 : (List (List Int)) → Option ((List (List Int)))) (f44 : (List (List Int)) → Option ((List (List Int)))) (f46 : (List (List Int)) → Option ((List (List Int)))) (self : (Int × Int × (List (List Int)) × (List (List Int))) → Option ((Int × Int × (List (List Int)) × (List (List Int))) ⊕ ((List (List Int))))) (z9 : Int × Int × (List (List Int)) × (List (List Int))) : Option ((Int × Int × (List (List Int)) × (List (List Int))) ⊕ ((List (List Int)))) :=
let v10 : Bool := decide (z9.2.1 < z9.1)
bif v10 then
if 0 ≤ z9.2.1 ∧ z9.2.1 < (z9.2.2.2.length : Int) then
let v11 : (List Int) := (z9.2.2.2.getD z9.2.1.toNat ([] : List Int))
Option.bind (f39 v11) fun y12 =>
if 0 ≤ z9.2.1 ∧ z9.2.1 < (z9.2.2.1.length : Int) then
let v13 : (List (List Int)) := z9.2.2.1.set z9.2.1.toNat y12
let v14 : Int := IntKind.wrap .i64 (z9.2.1 + (1 : Int))
self (z9.1, v14, v13, z9.2.2.2)
else none
else none
else
some (.inl (z9.1, z9.2.1, z9.2.2.1, z9.2.2.2))
def r35 (f39 : (List Int) → Option ((List Int))) (f43 : (List (List Int)) → Option ((List (List Int)))) (f44 : (List (List Int)) → Option ((List (List Int)))) (f46 : (List (List Int)) → Option ((List (List Int)))) (lp0 : (Int × Int × (List (List Int)) × (List (List Int))) → Option ((Int × Int × (List (List Int)) × (List (List Int))) ⊕ ((List (List Int))))) (a0 : (List (List Int))) : Option ((List (List Int))) :=
Option.bind (f43 a0) fun y1 =>
Option.bind (f44 y1) fun y2 =>
Option.bind (f46 y2) fun y3 =>
let v4 : Int := (y3.length : Int)
if 0 ≤ v4 ∧ v4 ≤ v4 ∧ v4 * (24 : Int) ≤ 140737488355328 ∧ v4 ≤ 140737488355328 then
let v5 : (List (List Int)) := List.replicate v4.toNat ([] : List Int)
let v6 : Int := (y3.length : Int)
Option.bind (lp0 (v6, (0 : Int), v5, y3)) fun s7 => onSum s7 (fun y8 =>
some y8.2.2.1) (fun o15 => some o15)
else none
-- slices.Concat[[][]byte,[]byte]
def F36_0 (f48 : Int → (List (List Int)) → Option ((List (List Int)))) (self : ((List (List (List Int))) × Int × (List (List (List Int))) × Int × Int) → Option (((List (List (List Int))) × Int × (List (List (List Int))) × Int × Int) ⊕ ((List (List Int))))) (z4 : (List (List (List Int))) × Int × (List (List (List Int))) × Int × Int) : Option (((List (List (List Int))) × Int × (List (List (List Int))) × Int × Int) ⊕ ((List (List Int)))) :=
let v5 : Bool := decide (z4.2.2.2.2 < z4.2.2.2.1)
bif v5 then
if 0 ≤ z4.2.2.2.2 ∧ z4.2.2.2.2 < (z4.2.2.1.length : Int) then
let v6 : (List (List Int)) := z4.2.2.1.getD z4.2.2.2.2.toNat ([] : List (List Int))
let v7 : Int := (v6.length : Int)
let v8 : Int := IntKind.wrap .i64 (z4.2.1 + v7)
let v9 : Bool := decide (v8 < (0 : Int))
bif v9 then
none
else
let v10 : Int := IntKind.wrap .i64 (z4.2.2.2.2 + (1 : Int))
self (z4.1, v8, z4.2.2.1, z4.2.2.2.1, v10)
else none
else
some (.inl (z4.1, z4.2.1, z4.2.2.1, z4.2.2.2.1, z4.2.2.2.2))
def F36_1 (f48 : Int → (List (List Int)) → Option ((List (List Int)))) (self : ((List (List (List Int))) × Int × Int × (List (List Int))) → Option (((List (List (List Int))) × Int × Int × (List (List Int))) ⊕ ((List (List Int))))) (z16 : (List (List (List Int))) × Int × Int × (List (List Int))) : Option (((List (List (List Int))) × Int × Int × (List (List Int))) ⊕ ((List (List Int)))) :=
let v17 : Bool := decide (z16.2.2.1 < z16.2.1)
bif v17 then
if 0 ≤ z16.2.2.1 ∧ z16.2.2.1 < (z16.1.length : Int) then
let v18 : (List (List Int)) := z16.1.getD z16.2.2.1.toNat ([] : List (List Int))
if (z16.2.2.2.length + v18.length) * 24 ≤ 140737488355328 ∧ z16.2.2.2.length + v18.length ≤ 140737488355328 then
let v19 : (List (List Int)) := z16.2.2.2 ++ v18
let v20 : Int := IntKind.wrap .i64 (z16.2.2.1 + (1 : Int))
self (z16.1, z16.2.1, v20, v19)
else none
else none
else
some (.inl (z16.1, z16.2.1, z16.2.2.1, z16.2.2.2))
def r36 (f48 : Int → (List (List Int)) → Option ((List (List Int)))) (lp0 : ((List (List (List Int))) × Int × (List (List (List Int))) × Int × Int) → Option (((List (List (List Int))) × Int × (List (List (List Int))) × Int × Int) ⊕ ((List (List Int))))) (lp1 : ((List (List (List Int))) × Int × Int × (List (List Int))) → Option (((List (List (List Int))) × Int × Int × (List (List Int))) ⊕ ((List (List Int))))) (a0 : (List (List (List Int)))) : Option ((List (List Int))) :=
let v1 : Int := (a0.length : Int)
Option.bind (lp0 (a0, (0 : Int), a0, v1, (0 : Int))) fun s2 => onSum s2 (fun y3 =>
Option.bind (f48 y3.2.1 ([] : List (List Int))) fun y12 =>
let v13 : Int := (y3.1.length : Int)
Option.bind (lp1 (y3.1, v13, (0 : Int), y12)) fun s14 => onSum s14 (fun y15 =>
some y15.2.2.2) (fun o21 => some o21)) (fun o11 => some o11)
-- tatting/names.Ids
def F37_0 (f49 : (List (List Int)) → (List Int) → Option (Int × Bool)) (self : ((List (List Int)) × (List (List Int)) × Int × Int × (List Int)) → Option (((List (List Int)) × (List (List Int)) × Int × Int × (List Int)) ⊕ ((List Int) × Bool))) (z6 : (List (List Int)) × (List (List Int)) × Int × Int × (List Int)) : Option (((List (List Int)) × (List (List Int)) × Int × Int × (List Int)) ⊕ ((List Int) × Bool)) :=
let v7 : Bool := decide (z6.2.2.2.1 < z6.2.2.1)
bif v7 then
if 0 ≤ z6.2.2.2.1 ∧ z6.2.2.2.1 < (z6.2.1.length : Int) then
let v8 : (List Int) := z6.2.1.getD z6.2.2.2.1.toNat ([] : List Int)
Option.bind (f49 z6.1 v8) fun y9 =>
let v10 : Bool := !y9.2
bif v10 then
some (.inr (([] : List Int), false))
else
if 0 ≤ z6.2.2.2.1 ∧ z6.2.2.2.1 < (z6.2.2.2.2.length : Int) then
let v11 : (List Int) := z6.2.2.2.2.set z6.2.2.2.1.toNat y9.1
let v12 : Int := IntKind.wrap .i64 (z6.2.2.2.1 + (1 : Int))
self (z6.1, z6.2.1, z6.2.2.1, v12, v11)
else none
else none
else
some (.inl (z6.1, z6.2.1, z6.2.2.1, z6.2.2.2.1, z6.2.2.2.2))
def r37 (f49 : (List (List Int)) → (List Int) → Option (Int × Bool)) (lp0 : ((List (List Int)) × (List (List Int)) × Int × Int × (List Int)) → Option (((List (List Int)) × (List (List Int)) × Int × Int × (List Int)) ⊕ ((List Int) × Bool))) (a0 : (List (List Int))) (a1 : (List (List Int))) : Option ((List Int) × Bool) :=
let v1 : Int := (a1.length : Int)
if 0 ≤ v1 ∧ v1 ≤ v1 ∧ v1 * (8 : Int) ≤ 140737488355328 ∧ v1 ≤ 140737488355328 then
let v2 : (List Int) := List.replicate v1.toNat (0 : Int)
let v3 : Int := (a1.length : Int)
Option.bind (lp0 (a0, a1, v3, (0 : Int), v2)) fun s4 => onSum s4 (fun y5 =>
some (y5.2.2.2.2, true)) (fun o13 => some o13)
else none
-- tatting/pairs.is
def r38 (a0 : (List Int)) (a1 : Int) : Option (Bool) :=
let v1 : Bool := decide (a1 ≥ (0 : Int))
bif v1 == true then
let v2 : Int := (a0.length : Int)
let v3 : Bool := decide (a1 < v2)
some v3
else
some false
-- tatting/tattingref1.Below
def F40_0 (self : ((List Int) × (List Int) × Int) → Option (((List Int) × (List Int) × Int) ⊕ (Bool))) (z3 : (List Int) × (List Int) × Int) : Option (((List Int) × (List Int) × Int) ⊕ (Bool)) :=
let v4 : Int := (z3.1.length : Int)
let v5 : Bool := decide (z3.2.2 < v4)
bif v5 == true then
let v6 : Int := (z3.2.1.length : Int)
let v7 : Bool := decide (z3.2.2 < v6)
bif v7 then
if 0 ≤ z3.2.2 ∧ z3.2.2 < (z3.1.length : Int) then
let v8 : Int := z3.1.getD z3.2.2.toNat (0 : Int)
if 0 ≤ z3.2.2 ∧ z3.2.2 < (z3.2.1.length : Int) then
let v9 : Int := z3.2.1.getD z3.2.2.toNat (0 : Int)
let v10 : Bool := !decide (v8 = v9)
bif v10 then
if 0 ≤ z3.2.2 ∧ z3.2.2 < (z3.1.length : Int) then
let v11 : Int := z3.1.getD z3.2.2.toNat (0 : Int)
if 0 ≤ z3.2.2 ∧ z3.2.2 < (z3.2.1.length : Int) then
let v12 : Int := z3.2.1.getD z3.2.2.toNat (0 : Int)
let v13 : Bool := decide (v11 < v12)
some (.inr v13)
else none
else none
else
let v14 : Int := IntKind.wrap .i64 (z3.2.2 + (1 : Int))
self (z3.1, z3.2.1, v14)
else none
else none
else
some (.inl (z3.1, z3.2.1, z3.2.2))
else
some (.inl (z3.1, z3.2.1, z3.2.2))
def r40 (lp0 : ((List Int) × (List Int) × Int) → Option (((List Int) × (List Int) × Int) ⊕ (Bool))) (a0 : (List Int)) (a1 : (List Int)) : Option (Bool) :=
Option.bind (lp0 (a0, a1, (0 : Int))) fun s1 => onSum s1 (fun y2 =>
let v16 : Int := (y2.1.length : Int)
let v17 : Int := (y2.2.1.length : Int)
let v18 : Bool := decide (v16 < v17)
some v18) (fun o15 => some o15)
-- tatting/tattingref1.Same
def r41 (a0 : (List Int)) (a1 : (List Int)) : Option (Bool) :=
let v1 : ByteArray := bytesStr a0
let v2 : ByteArray := bytesStr a1
let v3 : Bool := strEq v1 v2
some v3
-- tatting/tattingref1.Find
def F42_0 (f41 : (List Int) → (List Int) → Option (Bool)) (self : ((List (List Int)) × (List Int) × Int) → Option (((List (List Int)) × (List Int) × Int) ⊕ (Int × Bool))) (z3 : (List (List Int)) × (List Int) × Int) : Option (((List (List Int)) × (List Int) × Int) ⊕ (Int × Bool)) :=
let v4 : Int := (z3.1.length : Int)
let v5 : Bool := decide (z3.2.2 < v4)
bif v5 then
if 0 ≤ z3.2.2 ∧ z3.2.2 < (z3.1.length : Int) then
let v6 : (List Int) := z3.1.getD z3.2.2.toNat ([] : List Int)
Option.bind (f41 v6 z3.2.1) fun y7 =>
bif y7 then
some (.inr (z3.2.2, true))
else
let v8 : Int := IntKind.wrap .i64 (z3.2.2 + (1 : Int))
self (z3.1, z3.2.1, v8)
else none
else
some (.inl (z3.1, z3.2.1, z3.2.2))
def r42 (f41 : (List Int) → (List Int) → Option (Bool)) (lp0 : ((List (List Int)) × (List Int) × Int) → Option (((List (List Int)) × (List Int) × Int) ⊕ (Int × Bool))) (a0 : (List (List Int))) (a1 : (List Int)) : Option (Int × Bool) :=
Option.bind (lp0 (a0, a1, (0 : Int))) fun s1 => onSum s1 (fun y2 =>
some ((0 : Int), false)) (fun o9 => some o9)
-- bytes.Compare
def r45 (f52 : (List Int) → (List Int) → Option (Int)) (a0 : (List Int)) (a1 : (List Int)) : Option (Int) :=
Option.bind (f52 a0 a1) fun y1 =>
some y1
-- tatting/names.Find
def r49 (f53 : (List (List Int)) → (List Int) → Option (Int × Bool)) (a0 : (List (List Int))) (a1 : (List Int)) : Option (Int × Bool) :=
Option.bind (f53 a0 a1) fun y1 =>
let v2 : Bool := !y1.2
bif v2 then
some ((0 : Int), false)
else
some (y1.1, true)
-- slices.BinarySearchFunc[[][]byte,[]byte,[]byte]
def F53_0 (f45 : (List Int) → (List Int) → Option (Int)) (self : ((List (List Int)) × (List Int) × Int × Int × Int) → Option (((List (List Int)) × (List Int) × Int × Int × Int) ⊕ (Int × Bool))) (z4 : (List (List Int)) × (List Int) × Int × Int × Int) : Option (((List (List Int)) × (List Int) × Int × Int × Int) ⊕ (Int × Bool)) :=
let v5 : Bool := decide (z4.2.2.2.1 < z4.2.2.2.2)
bif v5 then
let v6 : Int := IntKind.wrap .i64 (z4.2.2.2.1 + z4.2.2.2.2)
let v7 : Int := IntKind.wrap .u64 v6
if (1 : Int) < 0 then none else
let v8 : Int := v7.fdiv (2 ^ (min (1 : Int).toNat (IntKind.bits .u64)))
let v9 : Int := IntKind.wrap .i64 v8
if 0 ≤ v9 ∧ v9 < (z4.1.length : Int) then
let v10 : (List Int) := z4.1.getD v9.toNat ([] : List Int)
Option.bind (f45 v10 z4.2.1) fun y11 =>
let v12 : Bool := decide (y11 < (0 : Int))
bif v12 then
let v13 : Int := IntKind.wrap .i64 (v9 + (1 : Int))
self (z4.1, z4.2.1, z4.2.2.1, v13, z4.2.2.2.2)
else
self (z4.1, z4.2.1, z4.2.2.1, z4.2.2.2.1, v9)
else none
else
some (.inl (z4.1, z4.2.1, z4.2.2.1, z4.2.2.2.1, z4.2.2.2.2))
def r53 (f45 : (List Int) → (List Int) → Option (Int)) (lp0 : ((List (List Int)) × (List Int) × Int × Int × Int) → Option (((List (List Int)) × (List Int) × Int × Int × Int) ⊕ (Int × Bool))) (a0 : (List (List Int))) (a1 : (List Int)) : Option (Int × Bool) :=
let v1 : Int := (a0.length : Int)
Option.bind (lp0 (a0, a1, v1, (0 : Int), v1)) fun s2 => onSum s2 (fun y3 =>
let v15 : Bool := decide (y3.2.2.2.1 < y3.2.2.1)
bif v15 == true then
if 0 ≤ y3.2.2.2.1 ∧ y3.2.2.2.1 < (y3.1.length : Int) then
let v16 : (List Int) := y3.1.getD y3.2.2.2.1.toNat ([] : List Int)
Option.bind (f45 v16 y3.2.1) fun y17 =>
let v18 : Bool := decide (y17 = (0 : Int))
some (y3.2.2.2.1, v18)
else none
else
some (y3.2.2.2.1, false)) (fun o14 => some o14)
def g7 (call : CallFn E) : (List (List Int)) → (List (List Int)) → (List (Int × Int)) → Option (Bool) := fun x0 x1 x2 => call 7 (x0, x1, x2)
def g8 (call : CallFn E) : (List (List Int)) → (List (List Int)) → (List (Int × Int)) → Option ((List (Int × ((List (List Int)) × (List (List Int))))) × Int) := fun x0 x1 x2 => call 8 (x0, x1, x2)
def g9 (call : CallFn E) : Int → (List (Int × ((List (List Int)) × (List (List Int))))) → Option ((List (Int × Int)) × Int) := fun x0 x1 => call 9 (x0, x1)
def g10 (call : CallFn E) : Unit → Option (Bool) := fun _ => call 10 ()
def g11 (call : CallFn E) : (List (Int × ((List (List Int)) × (List (List Int))))) → Option (Bool) := fun x0 => call 11 x0
def g12 (call : CallFn E) : (List (Int × Int)) → (List (Int × Int)) → Option (Bool) := fun x0 x1 => call 12 (x0, x1)
def g13 (call : CallFn E) : (List (List Int)) → Option (Bool) := fun x0 => call 13 x0
def g17 (call : CallFn E) : (List (Int × ((List (List Int)) × (List (List Int))))) → Option (Int × Int) := fun x0 => call 17 x0
def g21 (call : CallFn E) : (List (List Int)) → (List (List Int)) → Option ((List Int) × (List Int) × Int) := fun x0 x1 => call 21 (x0, x1)
def g22 (call : CallFn E) : (List Int) → (List Int) → (List (Int × Int)) → Option (Bool) := fun x0 x1 x2 => call 22 (x0, x1, x2)
def g23 (call : CallFn E) : (List Int) → (List Int) → Option ((List (Int × Int))) := fun x0 x1 => call 23 (x0, x1)
def g24 (call : CallFn E) : (List (List Int)) → (List (List Int)) → Option ((List Int) × (List Int) × Int) := fun x0 x1 => call 24 (x0, x1)
def g25 (call : CallFn E) : (List Int) → (List Int) → (List (Int × Int)) → Option (Bool) := fun x0 x1 x2 => call 25 (x0, x1, x2)
def g26 (call : CallFn E) : Int → Int → Int → Int → (List (Int × ((List (List Int)) × (List (List Int))))) → (List (List Int)) → (List (List Int)) → Option (Int × Int × (List (Int × ((List (List Int)) × (List (List Int))))) × (List (List Int)) × (List (List Int))) := fun x0 x1 x2 x3 x4 x5 x6 => call 26 (x0, x1, x2, x3, x4, x5, x6)
def g27 (call : CallFn E) : (List (List Int)) → Option ((List (List Int))) := fun x0 => call 27 x0
def g28 (call : CallFn E) : Int → Int → Int → (List (Int × Int)) → Option (Int × Int × (List (Int × Int))) := fun x0 x1 x2 x3 => call 28 (x0, x1, x2, x3)
def g29 (call : CallFn E) : (List (List Int)) → Option (Bool) := fun x0 => call 29 x0
def g31 (call : CallFn E) : (List (List Int)) → Option ((List (List Int))) := fun x0 => call 31 x0
def g32 (call : CallFn E) : (List (List Int)) → (List (List Int)) → Option ((List Int) × Bool) := fun x0 x1 => call 32 (x0, x1)
def g33 (call : CallFn E) : (List Int) → (List Int) → Option ((List (List Int))) := fun x0 x1 => call 33 (x0, x1)
def g34 (call : CallFn E) : (List Int) → (List Int) → (List (List Int)) → Int → Int → Int → Option (Int × Int) := fun x0 x1 x2 x3 x4 x5 => call 34 (x0, x1, x2, x3, x4, x5)
def g35 (call : CallFn E) : (List (List Int)) → Option ((List (List Int))) := fun x0 => call 35 x0
def g36 (call : CallFn E) : (List (List (List Int))) → Option ((List (List Int))) := fun x0 => call 36 x0
def g37 (call : CallFn E) : (List (List Int)) → (List (List Int)) → Option ((List Int) × Bool) := fun x0 x1 => call 37 (x0, x1)
def g38 (call : CallFn E) : (List Int) → Int → Option (Bool) := fun x0 x1 => call 38 (x0, x1)
def g39 (call : CallFn E) : (List Int) → Option ((List Int)) := fun x0 => call 39 x0
def g40 (call : CallFn E) : (List Int) → (List Int) → Option (Bool) := fun x0 x1 => call 40 (x0, x1)
def g41 (call : CallFn E) : (List Int) → (List Int) → Option (Bool) := fun x0 x1 => call 41 (x0, x1)
def g42 (call : CallFn E) : (List (List Int)) → (List Int) → Option (Int × Bool) := fun x0 x1 => call 42 (x0, x1)
def g43 (call : CallFn E) : (List (List Int)) → Option ((List (List Int))) := fun x0 => call 43 x0
def g44 (call : CallFn E) : (List (List Int)) → Option ((List (List Int))) := fun x0 => call 44 x0
def g45 (call : CallFn E) : (List Int) → (List Int) → Option (Int) := fun x0 x1 => call 45 (x0, x1)
def g46 (call : CallFn E) : (List (List Int)) → Option ((List (List Int))) := fun x0 => call 46 x0
def g48 (call : CallFn E) : Int → (List (List Int)) → Option ((List (List Int))) := fun x0 x1 => call 48 (x0, x1)
def g49 (call : CallFn E) : (List (List Int)) → (List Int) → Option (Int × Bool) := fun x0 x1 => call 49 (x0, x1)
def g52 (call : CallFn E) : (List Int) → (List Int) → Option (Int) := fun x0 x1 => call 52 (x0, x1)
def g53 (call : CallFn E) : (List (List Int)) → (List Int) → Option (Int × Bool) := fun x0 x1 => call 53 (x0, x1)
def L7_0 : LH := ⟨[0, 1, 2, 7], ⟨[.dat (.slice (.slice (.int .u8))), .dat (.slice (.slice (.int .u8))), .dat (.slice (.pair (.int .i64) (.one (.int .i64)))), .dat (.int .i64)], []⟩, 0⟩
noncomputable def b7_0 : Code := codeAt c7 [1, 1, 1, 0, 1, 0, 0]
noncomputable def lq7_0 (call : CallFn E) (n m : Nat) (y : (List (List Int)) × (List (List Int)) × (List (Int × Int)) × Int) : Option (((List (List Int)) × (List (List Int)) × (List (Int × Int)) × Int) ⊕ (Bool)) := loopAt (ctxOf E call n s7 Try.f7 hs7) b7_0 [0, 1, 0, 1, 1, 1] L7_0 m y
def L7_1 : LH := ⟨[0, 1, 2, 8], ⟨[.dat (.slice (.slice (.int .u8))), .dat (.slice (.slice (.int .u8))), .dat (.slice (.pair (.int .i64) (.one (.int .i64)))), .dat (.int .i64)], []⟩, 2⟩
noncomputable def b7_1 : Code := codeAt c7 [1, 1, 1, 1, 0, 1, 0, 0]
noncomputable def lq7_1 (call : CallFn E) (n m : Nat) (y : (List (List Int)) × (List (List Int)) × (List (Int × Int)) × Int) : Option (((List (List Int)) × (List (List Int)) × (List (Int × Int)) × Int) ⊕ (Bool)) := loopAt (ctxOf E call n s7 Try.f7 hs7) b7_1 [0, 1, 0, 1, 1, 1, 1] L7_1 m y
theorem lp7_1 (call : CallFn E) (n m : Nat) (y : (List (List Int)) × (List (List Int)) × (List (Int × Int)) × Int) : lq7_1 call n (m + 1) y = F7_1 (g8 call) (g9 call) (g10 call) (g11 call) (g12 call) (g13 call) (g17 call) (g21 call) (g22 call) (g23 call)  (lq7_1 call n m) y := by kernel_rfl
theorem lp7_0 (call : CallFn E) (n m : Nat) (y : (List (List Int)) × (List (List Int)) × (List (Int × Int)) × Int) : lq7_0 call n (m + 1) y = F7_0 (g8 call) (g9 call) (g10 call) (g11 call) (g12 call) (g13 call) (g17 call) (g21 call) (g22 call) (g23 call)  (lq7_0 call n m) y := by kernel_rfl
noncomputable def q7 (call : CallFn E) (n : Nat) (a0 : (List (List Int))) (a1 : (List (List Int))) (a2 : (List (Int × Int))) : Option (Bool) := runHow E call n s7 (a0, a1, a2) h7
theorem rr7 (call : CallFn E) (n : Nat) (a0 : (List (List Int))) (a1 : (List (List Int))) (a2 : (List (Int × Int))) : q7 call n a0 a1 a2 = r7 (g8 call) (g9 call) (g10 call) (g11 call) (g12 call) (g13 call) (g17 call) (g21 call) (g22 call) (g23 call) (lq7_0 call n n) (lq7_1 call n n) a0 a1 a2 := by kernel_rfl
theorem gq7 (n : Nat) (a0 : (List (List Int))) (a1 : (List (List Int))) (a2 : (List (Int × Int))) : g7 (evalF E (n + 1)) a0 a1 a2 = q7 (evalF E n) n a0 a1 a2 := by kernel_rfl
def L8_0 : LH := ⟨[3, 4, 11, 14, 30, 31, 32], ⟨[.ptr 0 0, .ptr 1 0, .ptr 2 0, .fnc 26 [3, 4, 2, 0, 1], .dat (.slice (.pair (.int .i64) (.one (.int .i64)))), .dat (.int .i64), .dat (.int .i64)], [.var (.slice (.slice (.int .u8))), .var (.slice (.slice (.int .u8))), .vrow (.pair (.int .i64) (.pair (.slice (.slice (.int .u8))) (.one (.slice (.slice (.int .u8)))))), .var (.int .i64), .var (.int .i64)]⟩, 0⟩
noncomputable def b8_0 : Code := codeAt c8 [1, 1, 1, 1, 1, 1, 0, 1, 0, 0]
noncomputable def lq8_0 (call : CallFn E) (n m : Nat) (y : (List (Int × Int)) × Int × Int × (List (List Int)) × (List (List Int)) × (List (Int × ((List (List Int)) × (List (List Int))))) × Int × Int) : Option (((List (Int × Int)) × Int × Int × (List (List Int)) × (List (List Int)) × (List (Int × ((List (List Int)) × (List (List Int))))) × Int × Int) ⊕ ((List (Int × ((List (List Int)) × (List (List Int))))) × Int)) := loopAt (ctxOf E call n s8 Try.f8 hs8) b8_0 [0, 1, 0, 1, 1, 1, 1, 1, 1] L8_0 m y
theorem lp8_0 (call : CallFn E) (n m : Nat) (y : (List (Int × Int)) × Int × Int × (List (List Int)) × (List (List Int)) × (List (Int × ((List (List Int)) × (List (List Int))))) × Int × Int) : lq8_0 call n (m + 1) y = F8_0 (g24 call) (g25 call) (g26 call)  (lq8_0 call n m) y := by kernel_rfl
noncomputable def q8 (call : CallFn E) (n : Nat) (a0 : (List (List Int))) (a1 : (List (List Int))) (a2 : (List (Int × Int))) : Option ((List (Int × ((List (List Int)) × (List (List Int))))) × Int) := runHow E call n s8 (a0, a1, a2) h8
theorem rr8 (call : CallFn E) (n : Nat) (a0 : (List (List Int))) (a1 : (List (List Int))) (a2 : (List (Int × Int))) : q8 call n a0 a1 a2 = r8 (g24 call) (g25 call) (g26 call) (lq8_0 call n n) a0 a1 a2 := by kernel_rfl
theorem gq8 (n : Nat) (a0 : (List (List Int))) (a1 : (List (List Int))) (a2 : (List (Int × Int))) : g8 (evalF E (n + 1)) a0 a1 a2 = q8 (evalF E n) n a0 a1 a2 := by kernel_rfl
def L9_0 : LH := ⟨[0, 6, 7, 8, 9, 24, 25, 26], ⟨[.dat (.int .i64), .ptr 0 0, .ptr 1 0, .ptr 2 0, .fnc 28 [1, 2, 0], .dat (.slice (.pair (.int .i64) (.pair (.slice (.slice (.int .u8))) (.one (.slice (.slice (.int .u8))))))), .dat (.int .i64), .dat (.int .i64)], [.vrow (.pair (.int .i64) (.one (.int .i64))), .var (.int .i64), .var (.int .i64)]⟩, 0⟩
noncomputable def b9_0 : Code := codeAt c9 [1, 1, 1, 1, 1, 0, 1, 0, 0]
noncomputable def lq9_0 (call : CallFn E) (n m : Nat) (y : Int × (List (Int × ((List (List Int)) × (List (List Int))))) × Int × Int × (List (Int × Int)) × Int × Int) : Option ((Int × (List (Int × ((List (List Int)) × (List (List Int))))) × Int × Int × (List (Int × Int)) × Int × Int) ⊕ ((List (Int × Int)) × Int)) := loopAt (ctxOf E call n s9 Try.f9 hs9) b9_0 [0, 1, 0, 1, 1, 1, 1, 1] L9_0 m y
theorem lp9_0 (call : CallFn E) (n m : Nat) (y : Int × (List (Int × ((List (List Int)) × (List (List Int))))) × Int × Int × (List (Int × Int)) × Int × Int) : lq9_0 call n (m + 1) y = F9_0 (g11 call) (g28 call)  (lq9_0 call n m) y := by kernel_rfl
noncomputable def q9 (call : CallFn E) (n : Nat) (a0 : Int) (a1 : (List (Int × ((List (List Int)) × (List (List Int)))))) : Option ((List (Int × Int)) × Int) := runHow E call n s9 (a0, a1) h9
theorem rr9 (call : CallFn E) (n : Nat) (a0 : Int) (a1 : (List (Int × ((List (List Int)) × (List (List Int)))))) : q9 call n a0 a1 = r9 (g11 call) (g28 call) (lq9_0 call n n) a0 a1 := by kernel_rfl
theorem gq9 (n : Nat) (a0 : Int) (a1 : (List (Int × ((List (List Int)) × (List (List Int)))))) : g9 (evalF E (n + 1)) a0 a1 = q9 (evalF E n) n a0 a1 := by kernel_rfl
noncomputable def q10 (call : CallFn E) (n : Nat) (_ : Unit) : Option (Bool) := runHow E call n s10 () h10
theorem rr10 (call : CallFn E) (n : Nat) (u : Unit) : q10 call n u = r10 (g8 call) (g9 call) (g11 call) (g17 call)  u := by kernel_rfl
theorem gq10 (n : Nat) (u : Unit) : g10 (evalF E (n + 1)) u = q10 (evalF E n) n u := by kernel_rfl
def L11_0 : LH := ⟨[3, 6, 7, 8], ⟨[.dat (.int .i64), .dat (.slice (.pair (.int .i64) (.pair (.slice (.slice (.int .u8))) (.one (.slice (.slice (.int .u8))))))), .dat (.int .i64), .dat (.int .i64)], []⟩, 0⟩
noncomputable def b11_0 : Code := codeAt c11 [1, 1, 0, 1, 0, 0]
noncomputable def lq11_0 (call : CallFn E) (n m : Nat) (y : Int × (List (Int × ((List (List Int)) × (List (List Int))))) × Int × Int) : Option ((Int × (List (Int × ((List (List Int)) × (List (List Int))))) × Int × Int) ⊕ (Bool)) := loopAt (ctxOf E call n s11 Try.f11 hs11) b11_0 [0, 1, 0, 1, 1] L11_0 m y
theorem lp11_0 (call : CallFn E) (n m : Nat) (y : Int × (List (Int × ((List (List Int)) × (List (List Int))))) × Int × Int) : lq11_0 call n (m + 1) y = F11_0 (g29 call)  (lq11_0 call n m) y := by kernel_rfl
noncomputable def q11 (call : CallFn E) (n : Nat) (a0 : (List (Int × ((List (List Int)) × (List (List Int)))))) : Option (Bool) := runHow E call n s11 a0 h11
theorem rr11 (call : CallFn E) (n : Nat) (a0 : (List (Int × ((List (List Int)) × (List (List Int)))))) : q11 call n a0 = r11 (g29 call) (lq11_0 call n n) a0 := by kernel_rfl
theorem gq11 (n : Nat) (a0 : (List (Int × ((List (List Int)) × (List (List Int)))))) : g11 (evalF E (n + 1)) a0 = q11 (evalF E n) n a0 := by kernel_rfl
def L12_0 : LH := ⟨[0, 1, 5], ⟨[.dat (.slice (.pair (.int .i64) (.one (.int .i64)))), .dat (.slice (.pair (.int .i64) (.one (.int .i64)))), .dat (.int .i64)], []⟩, 0⟩
noncomputable def b12_0 : Code := codeAt c12 [1, 1, 0, 1, 0, 0]
noncomputable def lq12_0 (call : CallFn E) (n m : Nat) (y : (List (Int × Int)) × (List (Int × Int)) × Int) : Option (((List (Int × Int)) × (List (Int × Int)) × Int) ⊕ (Bool)) := loopAt (ctxOf E call n s12 Try.f12 hs12) b12_0 [0, 1, 0, 1, 1] L12_0 m y
theorem lp12_0 (call : CallFn E) (n m : Nat) (y : (List (Int × Int)) × (List (Int × Int)) × Int) : lq12_0 call n (m + 1) y = F12_0   (lq12_0 call n m) y := by kernel_rfl
noncomputable def q12 (call : CallFn E) (n : Nat) (a0 : (List (Int × Int))) (a1 : (List (Int × Int))) : Option (Bool) := runHow E call n s12 (a0, a1) h12
theorem rr12 (call : CallFn E) (n : Nat) (a0 : (List (Int × Int))) (a1 : (List (Int × Int))) : q12 call n a0 a1 = r12  (lq12_0 call n n) a0 a1 := by kernel_rfl
theorem gq12 (n : Nat) (a0 : (List (Int × Int))) (a1 : (List (Int × Int))) : g12 (evalF E (n + 1)) a0 a1 = q12 (evalF E n) n a0 a1 := by kernel_rfl
def L13_0 : LH := ⟨[0, 3], ⟨[.dat (.slice (.slice (.int .u8))), .dat (.int .i64)], []⟩, 0⟩
noncomputable def b13_0 : Code := codeAt c13 [1, 1, 0, 1, 0, 0]
noncomputable def lq13_0 (call : CallFn E) (n m : Nat) (y : (List (List Int)) × Int) : Option (((List (List Int)) × Int) ⊕ (Bool)) := loopAt (ctxOf E call n s13 Try.f13 hs13) b13_0 [0, 1, 0, 1, 1] L13_0 m y
theorem lp13_0 (call : CallFn E) (n m : Nat) (y : (List (List Int)) × Int) : lq13_0 call n (m + 1) y = F13_0   (lq13_0 call n m) y := by kernel_rfl
noncomputable def q13 (call : CallFn E) (n : Nat) (a0 : (List (List Int))) : Option (Bool) := runHow E call n s13 a0 h13
theorem rr13 (call : CallFn E) (n : Nat) (a0 : (List (List Int))) : q13 call n a0 = r13  (lq13_0 call n n) a0 := by kernel_rfl
theorem gq13 (n : Nat) (a0 : (List (List Int))) : g13 (evalF E (n + 1)) a0 = q13 (evalF E n) n a0 := by kernel_rfl
def L17_0 : LH := ⟨[2, 3, 6, 7, 8], ⟨[.dat (.int .i64), .dat (.int .i64), .dat (.slice (.pair (.int .i64) (.pair (.slice (.slice (.int .u8))) (.one (.slice (.slice (.int .u8))))))), .dat (.int .i64), .dat (.int .i64)], []⟩, 0⟩
noncomputable def b17_0 : Code := codeAt c17 [1, 0, 1, 0, 0]
noncomputable def lq17_0 (call : CallFn E) (n m : Nat) (y : Int × Int × (List (Int × ((List (List Int)) × (List (List Int))))) × Int × Int) : Option ((Int × Int × (List (Int × ((List (List Int)) × (List (List Int))))) × Int × Int) ⊕ (Int × Int)) := loopAt (ctxOf E call n s17 Try.f17 hs17) b17_0 [0, 1, 0, 1] L17_0 m y
theorem lp17_0 (call : CallFn E) (n m : Nat) (y : Int × Int × (List (Int × ((List (List Int)) × (List (List Int))))) × Int × Int) : lq17_0 call n (m + 1) y = F17_0   (lq17_0 call n m) y := by kernel_rfl
noncomputable def q17 (call : CallFn E) (n : Nat) (a0 : (List (Int × ((List (List Int)) × (List (List Int)))))) : Option (Int × Int) := runHow E call n s17 a0 h17
theorem rr17 (call : CallFn E) (n : Nat) (a0 : (List (Int × ((List (List Int)) × (List (List Int)))))) : q17 call n a0 = r17  (lq17_0 call n n) a0 := by kernel_rfl
theorem gq17 (n : Nat) (a0 : (List (Int × ((List (List Int)) × (List (List Int)))))) : g17 (evalF E (n + 1)) a0 = q17 (evalF E n) n a0 := by kernel_rfl
noncomputable def q21 (call : CallFn E) (n : Nat) (a0 : (List (List Int))) (a1 : (List (List Int))) : Option ((List Int) × (List Int) × Int) := runHow E call n s21 (a0, a1) h21
theorem rr21 (call : CallFn E) (n : Nat) (a0 : (List (List Int))) (a1 : (List (List Int))) : q21 call n a0 a1 = r21 (g31 call) (g32 call)  a0 a1 := by kernel_rfl
theorem gq21 (n : Nat) (a0 : (List (List Int))) (a1 : (List (List Int))) : g21 (evalF E (n + 1)) a0 a1 = q21 (evalF E n) n a0 a1 := by kernel_rfl
def L22_0 : LH := ⟨[0, 1, 2, 7], ⟨[.dat (.slice (.int .i64)), .dat (.slice (.int .i64)), .dat (.slice (.pair (.int .i64) (.one (.int .i64)))), .dat (.int .i64)], []⟩, 0⟩
noncomputable def b22_0 : Code := codeAt c22 [1, 0, 1, 0, 0]
noncomputable def lq22_0 (call : CallFn E) (n m : Nat) (y : (List Int) × (List Int) × (List (Int × Int)) × Int) : Option (((List Int) × (List Int) × (List (Int × Int)) × Int) ⊕ (Bool)) := loopAt (ctxOf E call n s22 Try.f22 hs22) b22_0 [0, 1, 0, 1] L22_0 m y
theorem lp22_0 (call : CallFn E) (n m : Nat) (y : (List Int) × (List Int) × (List (Int × Int)) × Int) : lq22_0 call n (m + 1) y = F22_0   (lq22_0 call n m) y := by kernel_rfl
noncomputable def q22 (call : CallFn E) (n : Nat) (a0 : (List Int)) (a1 : (List Int)) (a2 : (List (Int × Int))) : Option (Bool) := runHow E call n s22 (a0, a1, a2) h22
theorem rr22 (call : CallFn E) (n : Nat) (a0 : (List Int)) (a1 : (List Int)) (a2 : (List (Int × Int))) : q22 call n a0 a1 a2 = r22  (lq22_0 call n n) a0 a1 a2 := by kernel_rfl
theorem gq22 (n : Nat) (a0 : (List Int)) (a1 : (List Int)) (a2 : (List (Int × Int))) : g22 (evalF E (n + 1)) a0 a1 a2 = q22 (evalF E n) n a0 a1 a2 := by kernel_rfl
def L23_0 : LH := ⟨[0, 1, 5, 6, 7, 8, 9], ⟨[.dat (.slice (.int .i64)), .dat (.slice (.int .i64)), .dat (.slice (.slice (.int .i64))), .ref 0, .dat (.int .i64), .dat (.int .i64), .dat (.int .i64)], [.row (.pair (.int .i64) (.one (.int .i64)))]⟩, 0⟩
noncomputable def b23_0 : Code := codeAt c23 [1, 1, 1, 1, 0, 1, 0, 0]
noncomputable def lq23_0 (call : CallFn E) (n m : Nat) (y : (List Int) × (List Int) × (List (List Int)) × Int × Int × Int × (List (Int × Int))) : Option (((List Int) × (List Int) × (List (List Int)) × Int × Int × Int × (List (Int × Int))) ⊕ ((List (Int × Int)))) := loopAt (ctxOf E call n s23 Try.f23 hs23) b23_0 [0, 1, 0, 1, 1, 1, 1] L23_0 m y
theorem lp23_0 (call : CallFn E) (n m : Nat) (y : (List Int) × (List Int) × (List (List Int)) × Int × Int × Int × (List (Int × Int))) : lq23_0 call n (m + 1) y = F23_0 (g33 call) (g34 call)  (lq23_0 call n m) y := by kernel_rfl
noncomputable def q23 (call : CallFn E) (n : Nat) (a0 : (List Int)) (a1 : (List Int)) : Option ((List (Int × Int))) := runHow E call n s23 (a0, a1) h23
theorem rr23 (call : CallFn E) (n : Nat) (a0 : (List Int)) (a1 : (List Int)) : q23 call n a0 a1 = r23 (g33 call) (g34 call) (lq23_0 call n n) a0 a1 := by kernel_rfl
theorem gq23 (n : Nat) (a0 : (List Int)) (a1 : (List Int)) : g23 (evalF E (n + 1)) a0 a1 = q23 (evalF E n) n a0 a1 := by kernel_rfl
noncomputable def q24 (call : CallFn E) (n : Nat) (a0 : (List (List Int))) (a1 : (List (List Int))) : Option ((List Int) × (List Int) × Int) := runHow E call n s24 (a0, a1) h24
theorem rr24 (call : CallFn E) (n : Nat) (a0 : (List (List Int))) (a1 : (List (List Int))) : q24 call n a0 a1 = r24 (g35 call) (g36 call) (g37 call)  a0 a1 := by kernel_rfl
theorem gq24 (n : Nat) (a0 : (List (List Int))) (a1 : (List (List Int))) : g24 (evalF E (n + 1)) a0 a1 = q24 (evalF E n) n a0 a1 := by kernel_rfl
def L25_0 : LH := ⟨[0, 1, 7, 11, 12, 13], ⟨[.dat (.slice (.int .i64)), .dat (.slice (.int .i64)), .ptr 0 0, .dat (.slice (.pair (.int .i64) (.one (.int .i64)))), .dat (.int .i64), .dat (.int .i64)], [.var (.pair (.int .i64) (.one (.int .i64)))]⟩, 0⟩
noncomputable def b25_0 : Code := codeAt c25 [1, 1, 0, 1, 0, 0]
noncomputable def lq25_0 (call : CallFn E) (n m : Nat) (y : (List Int) × (List Int) × (List (Int × Int)) × Int × Int × (Int × Int)) : Option (((List Int) × (List Int) × (List (Int × Int)) × Int × Int × (Int × Int)) ⊕ (Bool)) := loopAt (ctxOf E call n s25 Try.f25 hs25) b25_0 [0, 1, 0, 1, 1] L25_0 m y
theorem lp25_0 (call : CallFn E) (n m : Nat) (y : (List Int) × (List Int) × (List (Int × Int)) × Int × Int × (Int × Int)) : lq25_0 call n (m + 1) y = F25_0 (g38 call)  (lq25_0 call n m) y := by kernel_rfl
noncomputable def q25 (call : CallFn E) (n : Nat) (a0 : (List Int)) (a1 : (List Int)) (a2 : (List (Int × Int))) : Option (Bool) := runHow E call n s25 (a0, a1, a2) h25
theorem rr25 (call : CallFn E) (n : Nat) (a0 : (List Int)) (a1 : (List Int)) (a2 : (List (Int × Int))) : q25 call n a0 a1 a2 = r25 (g38 call) (lq25_0 call n n) a0 a1 a2 := by kernel_rfl
theorem gq25 (n : Nat) (a0 : (List Int)) (a1 : (List Int)) (a2 : (List (Int × Int))) : g25 (evalF E (n + 1)) a0 a1 a2 = q25 (evalF E n) n a0 a1 a2 := by kernel_rfl
noncomputable def q26 (call : CallFn E) (n : Nat) (a0 : Int) (a1 : Int) (a2 : Int) (a3 : Int) (a4 : (List (Int × ((List (List Int)) × (List (List Int)))))) (a5 : (List (List Int))) (a6 : (List (List Int))) : Option (Int × Int × (List (Int × ((List (List Int)) × (List (List Int))))) × (List (List Int)) × (List (List Int))) := runHow E call n s26 (a0, a1, a2, a3, a4, a5, a6) h26
theorem rr26 (call : CallFn E) (n : Nat) (a0 : Int) (a1 : Int) (a2 : Int) (a3 : Int) (a4 : (List (Int × ((List (List Int)) × (List (List Int)))))) (a5 : (List (List Int))) (a6 : (List (List Int))) : q26 call n a0 a1 a2 a3 a4 a5 a6 = r26 (g27 call)  a0 a1 a2 a3 a4 a5 a6 := by kernel_rfl
theorem gq26 (n : Nat) (a0 : Int) (a1 : Int) (a2 : Int) (a3 : Int) (a4 : (List (Int × ((List (List Int)) × (List (List Int)))))) (a5 : (List (List Int))) (a6 : (List (List Int))) : g26 (evalF E (n + 1)) a0 a1 a2 a3 a4 a5 a6 = q26 (evalF E n) n a0 a1 a2 a3 a4 a5 a6 := by kernel_rfl
def L27_0 : LH := ⟨[3, 6, 7, 8], ⟨[.ref 0, .dat (.slice (.slice (.int .u8))), .dat (.int .i64), .dat (.int .i64)], [.row (.slice (.int .u8))]⟩, 0⟩
noncomputable def b27_0 : Code := codeAt c27 [1, 1, 0, 1, 0, 0]
noncomputable def lq27_0 (call : CallFn E) (n m : Nat) (y : (List (List Int)) × Int × Int × (List (List Int))) : Option (((List (List Int)) × Int × Int × (List (List Int))) ⊕ ((List (List Int)))) := loopAt (ctxOf E call n s27 Try.f27 hs27) b27_0 [0, 1, 0, 1, 1] L27_0 m y
theorem lp27_0 (call : CallFn E) (n m : Nat) (y : (List (List Int)) × Int × Int × (List (List Int))) : lq27_0 call n (m + 1) y = F27_0 (g39 call)  (lq27_0 call n m) y := by kernel_rfl
noncomputable def q27 (call : CallFn E) (n : Nat) (a0 : (List (List Int))) : Option ((List (List Int))) := runHow E call n s27 a0 h27
theorem rr27 (call : CallFn E) (n : Nat) (a0 : (List (List Int))) : q27 call n a0 = r27 (g39 call) (lq27_0 call n n) a0 := by kernel_rfl
theorem gq27 (n : Nat) (a0 : (List (List Int))) : g27 (evalF E (n + 1)) a0 = q27 (evalF E n) n a0 := by kernel_rfl
def L28_0 : LH := ⟨[0, 1, 2, 3], ⟨[.dat (.int .i64), .ptr 0 0, .ptr 1 0, .ptr 2 0], [.var (.int .i64), .var (.int .i64), .vrow (.pair (.int .i64) (.one (.int .i64)))]⟩, 0⟩
noncomputable def b28_0 : Code := codeAt c28 [0, 0]
noncomputable def lq28_0 (call : CallFn E) (n m : Nat) (y : Int × Int × Int × (List (Int × Int))) : Option ((Int × Int × Int × (List (Int × Int))) ⊕ (Int × Int × (List (Int × Int)))) := loopAt (ctxOf E call n s28 Try.f28 hs28) b28_0 [0] L28_0 m y
theorem lp28_0 (call : CallFn E) (n m : Nat) (y : Int × Int × Int × (List (Int × Int))) : lq28_0 call n (m + 1) y = F28_0   (lq28_0 call n m) y := by kernel_rfl
noncomputable def q28 (call : CallFn E) (n : Nat) (a0 : Int) (a1 : Int) (a2 : Int) (a3 : (List (Int × Int))) : Option (Int × Int × (List (Int × Int))) := runHow E call n s28 (a0, a1, a2, a3) h28
theorem rr28 (call : CallFn E) (n : Nat) (a0 : Int) (a1 : Int) (a2 : Int) (a3 : (List (Int × Int))) : q28 call n a0 a1 a2 a3 = r28  (lq28_0 call n n) a0 a1 a2 a3 := by kernel_rfl
theorem gq28 (n : Nat) (a0 : Int) (a1 : Int) (a2 : Int) (a3 : (List (Int × Int))) : g28 (evalF E (n + 1)) a0 a1 a2 a3 = q28 (evalF E n) n a0 a1 a2 a3 := by kernel_rfl
def L29_0 : LH := ⟨[5, 6, 7], ⟨[.dat (.slice (.slice (.int .u8))), .dat (.int .i64), .dat (.int .i64)], []⟩, 0⟩
noncomputable def b29_0 : Code := codeAt c29 [1, 0, 1, 0, 0]
noncomputable def lq29_0 (call : CallFn E) (n m : Nat) (y : (List (List Int)) × Int × Int) : Option (((List (List Int)) × Int × Int) ⊕ (Bool)) := loopAt (ctxOf E call n s29 Try.f29 hs29) b29_0 [0, 1, 0, 1] L29_0 m y
theorem lp29_0 (call : CallFn E) (n m : Nat) (y : (List (List Int)) × Int × Int) : lq29_0 call n (m + 1) y = F29_0   (lq29_0 call n m) y := by kernel_rfl
noncomputable def q29 (call : CallFn E) (n : Nat) (a0 : (List (List Int))) : Option (Bool) := runHow E call n s29 a0 h29
theorem rr29 (call : CallFn E) (n : Nat) (a0 : (List (List Int))) : q29 call n a0 = r29  (lq29_0 call n n) a0 := by kernel_rfl
theorem gq29 (n : Nat) (a0 : (List (List Int))) : g29 (evalF E (n + 1)) a0 = q29 (evalF E n) n a0 := by kernel_rfl
def L31_0 : LH := ⟨[0, 3, 4, 5], ⟨[.dat (.slice (.slice (.int .u8))), .ref 0, .dat (.int .i64), .dat (.int .i64)], [.row (.slice (.int .u8))]⟩, 2⟩
noncomputable def b31_0 : Code := codeAt c31 [1, 1, 0, 1, 0, 0, 1, 0, 0, 1, 0, 0, 0]
noncomputable def lq31_0 (call : CallFn E) (n m : Nat) (y : (List (List Int)) × Int × Int × (List (List Int))) : Option (((List (List Int)) × Int × Int × (List (List Int))) ⊕ ((List (List Int)))) := loopAt (ctxOf E call n s31 Try.f31 hs31) b31_0 [0, 0, 1, 0, 0, 1, 0, 0, 1, 0, 1, 1] L31_0 m y
def L31_1 : LH := ⟨[0, 3, 4], ⟨[.dat (.slice (.slice (.int .u8))), .ref 0, .dat (.int .i64)], [.row (.slice (.int .u8))]⟩, 0⟩
noncomputable def b31_1 : Code := codeAt c31 [1, 1, 0, 1, 0, 0]
noncomputable def lq31_1 (call : CallFn E) (n m : Nat) (y : (List (List Int)) × Int × (List (List Int))) : Option (((List (List Int)) × Int × (List (List Int))) ⊕ ((List (List Int)))) := loopAt (ctxOf E call n s31 Try.f31 hs31) b31_1 [0, 1, 0, 1, 1] L31_1 m y
theorem lp31_0 (call : CallFn E) (n m : Nat) (y : (List (List Int)) × Int × Int × (List (List Int))) : lq31_0 call n (m + 1) y = F31_0 (g40 call) (g41 call)  (lq31_0 call n m) y := by kernel_rfl
theorem lp31_1 (call : CallFn E) (n m : Nat) (y : (List (List Int)) × Int × (List (List Int))) : lq31_1 call n (m + 1) y = F31_1 (g40 call) (g41 call) (lq31_0 call n n) (lq31_1 call n m) y := by kernel_rfl
noncomputable def q31 (call : CallFn E) (n : Nat) (a0 : (List (List Int))) : Option ((List (List Int))) := runHow E call n s31 a0 h31
theorem rr31 (call : CallFn E) (n : Nat) (a0 : (List (List Int))) : q31 call n a0 = r31 (g40 call) (g41 call) (lq31_0 call n n) (lq31_1 call n n) a0 := by kernel_rfl
theorem gq31 (n : Nat) (a0 : (List (List Int))) : g31 (evalF E (n + 1)) a0 = q31 (evalF E n) n a0 := by kernel_rfl
def L32_0 : LH := ⟨[0, 1, 6, 7], ⟨[.dat (.slice (.slice (.int .u8))), .dat (.slice (.slice (.int .u8))), .ref 0, .dat (.int .i64)], [.row (.int .i64)]⟩, 0⟩
noncomputable def b32_0 : Code := codeAt c32 [1, 1, 0, 1, 0, 0]
noncomputable def lq32_0 (call : CallFn E) (n m : Nat) (y : (List (List Int)) × (List (List Int)) × Int × (List Int)) : Option (((List (List Int)) × (List (List Int)) × Int × (List Int)) ⊕ ((List Int) × Bool)) := loopAt (ctxOf E call n s32 Try.f32 hs32) b32_0 [0, 1, 0, 1, 1] L32_0 m y
theorem lp32_0 (call : CallFn E) (n m : Nat) (y : (List (List Int)) × (List (List Int)) × Int × (List Int)) : lq32_0 call n (m + 1) y = F32_0 (g42 call)  (lq32_0 call n m) y := by kernel_rfl
noncomputable def q32 (call : CallFn E) (n : Nat) (a0 : (List (List Int))) (a1 : (List (List Int))) : Option ((List Int) × Bool) := runHow E call n s32 (a0, a1) h32
theorem rr32 (call : CallFn E) (n : Nat) (a0 : (List (List Int))) (a1 : (List (List Int))) : q32 call n a0 a1 = r32 (g42 call) (lq32_0 call n n) a0 a1 := by kernel_rfl
theorem gq32 (n : Nat) (a0 : (List (List Int))) (a1 : (List (List Int))) : g32 (evalF E (n + 1)) a0 a1 = q32 (evalF E n) n a0 a1 := by kernel_rfl
def L34_0 : LH := ⟨[0, 1, 2, 4, 5, 14, 15], ⟨[.dat (.slice (.int .i64)), .dat (.slice (.int .i64)), .dat (.slice (.slice (.int .i64))), .dat (.int .i64), .dat (.int .i64), .dat (.int .i64), .dat (.int .i64)], []⟩, 2⟩
noncomputable def b34_0 : Code := codeAt c34 [1, 0, 1, 0, 0, 1, 0, 0, 1, 0, 0]
noncomputable def lq34_0 (call : CallFn E) (n m : Nat) (y : (List Int) × (List Int) × (List (List Int)) × Int × Int × Int × Int) : Option (((List Int) × (List Int) × (List (List Int)) × Int × Int × Int × Int) ⊕ (Int × Int)) := loopAt (ctxOf E call n s34 Try.f34 hs34) b34_0 [0, 1, 0, 0, 1, 0, 0, 1, 0, 1] L34_0 m y
def L34_1 : LH := ⟨[0, 1, 2, 4, 5, 14], ⟨[.dat (.slice (.int .i64)), .dat (.slice (.int .i64)), .dat (.slice (.slice (.int .i64))), .dat (.int .i64), .dat (.int .i64), .dat (.int .i64)], []⟩, 0⟩
noncomputable def b34_1 : Code := codeAt c34 [1, 0, 1, 0, 0]
noncomputable def lq34_1 (call : CallFn E) (n m : Nat) (y : (List Int) × (List Int) × (List (List Int)) × Int × Int × Int) : Option (((List Int) × (List Int) × (List (List Int)) × Int × Int × Int) ⊕ (Int × Int)) := loopAt (ctxOf E call n s34 Try.f34 hs34) b34_1 [0, 1, 0, 1] L34_1 m y
theorem lp34_0 (call : CallFn E) (n m : Nat) (y : (List Int) × (List Int) × (List (List Int)) × Int × Int × Int × Int) : lq34_0 call n (m + 1) y = F34_0   (lq34_0 call n m) y := by kernel_rfl
theorem lp34_1 (call : CallFn E) (n m : Nat) (y : (List Int) × (List Int) × (List (List Int)) × Int × Int × Int) : lq34_1 call n (m + 1) y = F34_1  (lq34_0 call n n) (lq34_1 call n m) y := by kernel_rfl
noncomputable def q34 (call : CallFn E) (n : Nat) (a0 : (List Int)) (a1 : (List Int)) (a2 : (List (List Int))) (a3 : Int) (a4 : Int) (a5 : Int) : Option (Int × Int) := runHow E call n s34 (a0, a1, a2, a3, a4, a5) h34
theorem rr34 (call : CallFn E) (n : Nat) (a0 : (List Int)) (a1 : (List Int)) (a2 : (List (List Int))) (a3 : Int) (a4 : Int) (a5 : Int) : q34 call n a0 a1 a2 a3 a4 a5 = r34  (lq34_0 call n n) (lq34_1 call n n) a0 a1 a2 a3 a4 a5 := by kernel_rfl
theorem gq34 (n : Nat) (a0 : (List Int)) (a1 : (List Int)) (a2 : (List (List Int))) (a3 : Int) (a4 : Int) (a5 : Int) : g34 (evalF E (n + 1)) a0 a1 a2 a3 a4 a5 = q34 (evalF E n) n a0 a1 a2 a3 a4 a5 := by kernel_rfl
def L35_0 : LH := ⟨[4, 16, 17, 18], ⟨[.ref 0, .ref 1, .dat (.int .i64), .dat (.int .i64)], [.row (.slice (.int .u8)), .row (.slice (.int .u8))]⟩, 0⟩
noncomputable def b35_0 : Code := codeAt c35 [1, 1, 1, 1, 1, 0, 1, 0, 0]
noncomputable def lq35_0 (call : CallFn E) (n m : Nat) (y : Int × Int × (List (List Int)) × (List (List Int))) : Option ((Int × Int × (List (List Int)) × (List (List Int))) ⊕ ((List (List Int)))) := loopAt (ctxOf E call n s35 Try.f35 hs35) b35_0 [0, 1, 0, 1, 1, 1, 1, 1] L35_0 m y
theorem lp35_0 (call : CallFn E) (n m : Nat) (y : Int × Int × (List (List Int)) × (List (List Int))) : lq35_0 call n (m + 1) y = F35_0 (g39 call) (g43 call) (g44 call) (g46 call)  (lq35_0 call n m) y := by kernel_rfl
noncomputable def q35 (call : CallFn E) (n : Nat) (a0 : (List (List Int))) : Option ((List (List Int))) := runHow E call n s35 a0 h35
theorem rr35 (call : CallFn E) (n : Nat) (a0 : (List (List Int))) : q35 call n a0 = r35 (g39 call) (g43 call) (g44 call) (g46 call) (lq35_0 call n n) a0 := by kernel_rfl
theorem gq35 (n : Nat) (a0 : (List (List Int))) : g35 (evalF E (n + 1)) a0 = q35 (evalF E n) n a0 := by kernel_rfl
def L36_0 : LH := ⟨[0, 3, 9, 10, 11], ⟨[.dat (.slice (.slice (.slice (.int .u8)))), .dat (.int .i64), .dat (.slice (.slice (.slice (.int .u8)))), .dat (.int .i64), .dat (.int .i64)], []⟩, 0⟩
noncomputable def b36_0 : Code := codeAt c36 [1, 1, 0, 1, 0, 0]
noncomputable def lq36_0 (call : CallFn E) (n m : Nat) (y : (List (List (List Int))) × Int × (List (List (List Int))) × Int × Int) : Option (((List (List (List Int))) × Int × (List (List (List Int))) × Int × Int) ⊕ ((List (List Int)))) := loopAt (ctxOf E call n s36 Try.f36 hs36) b36_0 [0, 1, 0, 1, 1] L36_0 m y
def L36_1 : LH := ⟨[6, 25, 26, 27], ⟨[.ref 0, .dat (.slice (.slice (.slice (.int .u8)))), .dat (.int .i64), .dat (.int .i64)], [.row (.slice (.int .u8))]⟩, 2⟩
noncomputable def b36_1 : Code := codeAt c36 [1, 1, 1, 1, 0, 1, 0, 0]
noncomputable def lq36_1 (call : CallFn E) (n m : Nat) (y : (List (List (List Int))) × Int × Int × (List (List Int))) : Option (((List (List (List Int))) × Int × Int × (List (List Int))) ⊕ ((List (List Int)))) := loopAt (ctxOf E call n s36 Try.f36 hs36) b36_1 [0, 1, 0, 1, 1, 1, 1] L36_1 m y
theorem lp36_1 (call : CallFn E) (n m : Nat) (y : (List (List (List Int))) × Int × Int × (List (List Int))) : lq36_1 call n (m + 1) y = F36_1 (g48 call)  (lq36_1 call n m) y := by kernel_rfl
theorem lp36_0 (call : CallFn E) (n m : Nat) (y : (List (List (List Int))) × Int × (List (List (List Int))) × Int × Int) : lq36_0 call n (m + 1) y = F36_0 (g48 call)  (lq36_0 call n m) y := by kernel_rfl
noncomputable def q36 (call : CallFn E) (n : Nat) (a0 : (List (List (List Int)))) : Option ((List (List Int))) := runHow E call n s36 a0 h36
theorem rr36 (call : CallFn E) (n : Nat) (a0 : (List (List (List Int)))) : q36 call n a0 = r36 (g48 call) (lq36_0 call n n) (lq36_1 call n n) a0 := by kernel_rfl
theorem gq36 (n : Nat) (a0 : (List (List (List Int)))) : g36 (evalF E (n + 1)) a0 = q36 (evalF E n) n a0 := by kernel_rfl
def L37_0 : LH := ⟨[0, 6, 14, 15, 16], ⟨[.dat (.slice (.slice (.int .u8))), .ref 0, .dat (.slice (.slice (.int .u8))), .dat (.int .i64), .dat (.int .i64)], [.row (.int .i64)]⟩, 0⟩
noncomputable def b37_0 : Code := codeAt c37 [1, 1, 0, 1, 0, 0]
noncomputable def lq37_0 (call : CallFn E) (n m : Nat) (y : (List (List Int)) × (List (List Int)) × Int × Int × (List Int)) : Option (((List (List Int)) × (List (List Int)) × Int × Int × (List Int)) ⊕ ((List Int) × Bool)) := loopAt (ctxOf E call n s37 Try.f37 hs37) b37_0 [0, 1, 0, 1, 1] L37_0 m y
theorem lp37_0 (call : CallFn E) (n m : Nat) (y : (List (List Int)) × (List (List Int)) × Int × Int × (List Int)) : lq37_0 call n (m + 1) y = F37_0 (g49 call)  (lq37_0 call n m) y := by kernel_rfl
noncomputable def q37 (call : CallFn E) (n : Nat) (a0 : (List (List Int))) (a1 : (List (List Int))) : Option ((List Int) × Bool) := runHow E call n s37 (a0, a1) h37
theorem rr37 (call : CallFn E) (n : Nat) (a0 : (List (List Int))) (a1 : (List (List Int))) : q37 call n a0 a1 = r37 (g49 call) (lq37_0 call n n) a0 a1 := by kernel_rfl
theorem gq37 (n : Nat) (a0 : (List (List Int))) (a1 : (List (List Int))) : g37 (evalF E (n + 1)) a0 a1 = q37 (evalF E n) n a0 a1 := by kernel_rfl
noncomputable def q38 (call : CallFn E) (n : Nat) (a0 : (List Int)) (a1 : Int) : Option (Bool) := runHow E call n s38 (a0, a1) h38
theorem rr38 (call : CallFn E) (n : Nat) (a0 : (List Int)) (a1 : Int) : q38 call n a0 a1 = r38   a0 a1 := by kernel_rfl
theorem gq38 (n : Nat) (a0 : (List Int)) (a1 : Int) : g38 (evalF E (n + 1)) a0 a1 = q38 (evalF E n) n a0 a1 := by kernel_rfl
def L40_0 : LH := ⟨[0, 1, 5], ⟨[.dat (.slice (.int .u8)), .dat (.slice (.int .u8)), .dat (.int .i64)], []⟩, 0⟩
noncomputable def b40_0 : Code := codeAt c40 [1, 0, 1, 0, 0]
noncomputable def lq40_0 (call : CallFn E) (n m : Nat) (y : (List Int) × (List Int) × Int) : Option (((List Int) × (List Int) × Int) ⊕ (Bool)) := loopAt (ctxOf E call n s40 Try.f40 hs40) b40_0 [0, 1, 0, 1] L40_0 m y
theorem lp40_0 (call : CallFn E) (n m : Nat) (y : (List Int) × (List Int) × Int) : lq40_0 call n (m + 1) y = F40_0   (lq40_0 call n m) y := by kernel_rfl
noncomputable def q40 (call : CallFn E) (n : Nat) (a0 : (List Int)) (a1 : (List Int)) : Option (Bool) := runHow E call n s40 (a0, a1) h40
theorem rr40 (call : CallFn E) (n : Nat) (a0 : (List Int)) (a1 : (List Int)) : q40 call n a0 a1 = r40  (lq40_0 call n n) a0 a1 := by kernel_rfl
theorem gq40 (n : Nat) (a0 : (List Int)) (a1 : (List Int)) : g40 (evalF E (n + 1)) a0 a1 = q40 (evalF E n) n a0 a1 := by kernel_rfl
noncomputable def q41 (call : CallFn E) (n : Nat) (a0 : (List Int)) (a1 : (List Int)) : Option (Bool) := runHow E call n s41 (a0, a1) h41
theorem rr41 (call : CallFn E) (n : Nat) (a0 : (List Int)) (a1 : (List Int)) : q41 call n a0 a1 = r41   a0 a1 := by kernel_rfl
theorem gq41 (n : Nat) (a0 : (List Int)) (a1 : (List Int)) : g41 (evalF E (n + 1)) a0 a1 = q41 (evalF E n) n a0 a1 := by kernel_rfl
def L42_0 : LH := ⟨[0, 1, 6], ⟨[.dat (.slice (.slice (.int .u8))), .dat (.slice (.int .u8)), .dat (.int .i64)], []⟩, 0⟩
noncomputable def b42_0 : Code := codeAt c42 [1, 0, 1, 0, 0]
noncomputable def lq42_0 (call : CallFn E) (n m : Nat) (y : (List (List Int)) × (List Int) × Int) : Option (((List (List Int)) × (List Int) × Int) ⊕ (Int × Bool)) := loopAt (ctxOf E call n s42 Try.f42 hs42) b42_0 [0, 1, 0, 1] L42_0 m y
theorem lp42_0 (call : CallFn E) (n m : Nat) (y : (List (List Int)) × (List Int) × Int) : lq42_0 call n (m + 1) y = F42_0 (g41 call)  (lq42_0 call n m) y := by kernel_rfl
noncomputable def q42 (call : CallFn E) (n : Nat) (a0 : (List (List Int))) (a1 : (List Int)) : Option (Int × Bool) := runHow E call n s42 (a0, a1) h42
theorem rr42 (call : CallFn E) (n : Nat) (a0 : (List (List Int))) (a1 : (List Int)) : q42 call n a0 a1 = r42 (g41 call) (lq42_0 call n n) a0 a1 := by kernel_rfl
theorem gq42 (n : Nat) (a0 : (List (List Int))) (a1 : (List Int)) : g42 (evalF E (n + 1)) a0 a1 = q42 (evalF E n) n a0 a1 := by kernel_rfl
noncomputable def q45 (call : CallFn E) (n : Nat) (a0 : (List Int)) (a1 : (List Int)) : Option (Int) := runHow E call n s45 (a0, a1) h45
theorem rr45 (call : CallFn E) (n : Nat) (a0 : (List Int)) (a1 : (List Int)) : q45 call n a0 a1 = r45 (g52 call)  a0 a1 := by kernel_rfl
theorem gq45 (n : Nat) (a0 : (List Int)) (a1 : (List Int)) : g45 (evalF E (n + 1)) a0 a1 = q45 (evalF E n) n a0 a1 := by kernel_rfl
noncomputable def q49 (call : CallFn E) (n : Nat) (a0 : (List (List Int))) (a1 : (List Int)) : Option (Int × Bool) := runHow E call n s49 (a0, a1) h49
theorem rr49 (call : CallFn E) (n : Nat) (a0 : (List (List Int))) (a1 : (List Int)) : q49 call n a0 a1 = r49 (g53 call)  a0 a1 := by kernel_rfl
theorem gq49 (n : Nat) (a0 : (List (List Int))) (a1 : (List Int)) : g49 (evalF E (n + 1)) a0 a1 = q49 (evalF E n) n a0 a1 := by kernel_rfl
def L53_0 : LH := ⟨[0, 1, 2, 8, 9, 10], ⟨[.dat (.slice (.slice (.int .u8))), .dat (.slice (.int .u8)), .fnc 45 [], .dat (.int .i64), .dat (.int .i64), .dat (.int .i64)], []⟩, 0⟩
noncomputable def b53_0 : Code := codeAt c53 [1, 1, 1, 0, 0, 0]
noncomputable def lq53_0 (call : CallFn E) (n m : Nat) (y : (List (List Int)) × (List Int) × Int × Int × Int) : Option (((List (List Int)) × (List Int) × Int × Int × Int) ⊕ (Int × Bool)) := loopAt (ctxOf E call n s53 Try.f53 hs53) b53_0 [0, 0, 1, 1, 1] L53_0 m y
theorem lp53_0 (call : CallFn E) (n m : Nat) (y : (List (List Int)) × (List Int) × Int × Int × Int) : lq53_0 call n (m + 1) y = F53_0 (g45 call)  (lq53_0 call n m) y := by kernel_rfl
noncomputable def q53 (call : CallFn E) (n : Nat) (a0 : (List (List Int))) (a1 : (List Int)) : Option (Int × Bool) := runHow E call n s53 (a0, a1) h53
theorem rr53 (call : CallFn E) (n : Nat) (a0 : (List (List Int))) (a1 : (List Int)) : q53 call n a0 a1 = r53 (g45 call) (lq53_0 call n n) a0 a1 := by kernel_rfl
theorem gq53 (n : Nat) (a0 : (List (List Int))) (a1 : (List Int)) : g53 (evalF E (n + 1)) a0 a1 = q53 (evalF E n) n a0 a1 := by kernel_rfl
def R39 : Nat → (List Int) → Option ((List Int))
  | 0, _ => none
  | _ + 1, a0 => NameX.cloneB a0
theorem e39 (n : Nat) : g39 (evalF E n) = R39 n := by cases n <;> rfl
def R43 : Nat → (List (List Int)) → Option ((List (List Int)))
  | 0, _ => none
  | _ + 1, a0 => NameX.cloneR a0
theorem e43 (n : Nat) : g43 (evalF E n) = R43 n := by cases n <;> rfl
def R44 : Nat → (List (List Int)) → Option ((List (List Int)))
  | 0, _ => none
  | _ + 1, a0 => NameX.sortR a0
theorem e44 (n : Nat) : g44 (evalF E n) = R44 n := by cases n <;> rfl
def R46 : Nat → (List (List Int)) → Option ((List (List Int)))
  | 0, _ => none
  | _ + 1, a0 => NameX.compactR a0
theorem e46 (n : Nat) : g46 (evalF E n) = R46 n := by cases n <;> rfl
def R35 : Nat → (List (List Int)) → Option ((List (List Int)))
  | 0, _ => none
  | n + 1, a0 => r35 (R39 n) (R43 n) (R44 n) (R46 n) (iter (F35_0 (R39 n) (R43 n) (R44 n) (R46 n) ) n) a0
def J35_0 (n m : Nat) : (Int × Int × (List (List Int)) × (List (List Int))) → Option ((Int × Int × (List (List Int)) × (List (List Int))) ⊕ ((List (List Int)))) := iter (F35_0 (R39 n) (R43 n) (R44 n) (R46 n) ) m
theorem j35_0 (n m : Nat) (x : Int × Int × (List (List Int)) × (List (List Int))) : J35_0 n (m + 1) x = F35_0 (R39 n) (R43 n) (R44 n) (R46 n)  (J35_0 n m) x := rfl
theorem u35 (n : Nat) (a0 : (List (List Int))) : R35 (n + 1) a0 = r35 (R39 n) (R43 n) (R44 n) (R46 n) (J35_0 n n) a0 := rfl
theorem e35 : ∀ (n : Nat), g35 (evalF E n) = R35 n
  | 0 => by funext a0; rfl
  | n + 1 => by
    have l0 : lq35_0 (evalF E n) n n = (iter (F35_0 (R39 n) (R43 n) (R44 n) (R46 n) ) n) := iter_of (g := lq35_0 (evalF E n) n) rfl (fun m y => by rw [lp35_0]; simp only [e39 n, e43 n, e44 n, e46 n]) n
    funext a0
    rw [gq35, rr35]
    simp only [e39 n, e43 n, e44 n, e46 n, l0]
    rfl
def R48 : Nat → Int → (List (List Int)) → Option ((List (List Int)))
  | 0, _, _ => none
  | _ + 1, a0, a1 => NameX.growR (a0, a1)
theorem e48 (n : Nat) : g48 (evalF E n) = R48 n := by cases n <;> rfl
def R36 : Nat → (List (List (List Int))) → Option ((List (List Int)))
  | 0, _ => none
  | n + 1, a0 => r36 (R48 n) (iter (F36_0 (R48 n) ) n) (iter (F36_1 (R48 n) ) n) a0
def J36_1 (n m : Nat) : ((List (List (List Int))) × Int × Int × (List (List Int))) → Option (((List (List (List Int))) × Int × Int × (List (List Int))) ⊕ ((List (List Int)))) := iter (F36_1 (R48 n) ) m
theorem j36_1 (n m : Nat) (x : (List (List (List Int))) × Int × Int × (List (List Int))) : J36_1 n (m + 1) x = F36_1 (R48 n)  (J36_1 n m) x := rfl
def J36_0 (n m : Nat) : ((List (List (List Int))) × Int × (List (List (List Int))) × Int × Int) → Option (((List (List (List Int))) × Int × (List (List (List Int))) × Int × Int) ⊕ ((List (List Int)))) := iter (F36_0 (R48 n) ) m
theorem j36_0 (n m : Nat) (x : (List (List (List Int))) × Int × (List (List (List Int))) × Int × Int) : J36_0 n (m + 1) x = F36_0 (R48 n)  (J36_0 n m) x := rfl
theorem u36 (n : Nat) (a0 : (List (List (List Int)))) : R36 (n + 1) a0 = r36 (R48 n) (J36_0 n n) (J36_1 n n) a0 := rfl
theorem e36 : ∀ (n : Nat), g36 (evalF E n) = R36 n
  | 0 => by funext a0; rfl
  | n + 1 => by
    have l1 : lq36_1 (evalF E n) n n = (iter (F36_1 (R48 n) ) n) := iter_of (g := lq36_1 (evalF E n) n) rfl (fun m y => by rw [lp36_1]; simp only [e48 n]) n
    have l0 : lq36_0 (evalF E n) n n = (iter (F36_0 (R48 n) ) n) := iter_of (g := lq36_0 (evalF E n) n) rfl (fun m y => by rw [lp36_0]; simp only [e48 n]) n
    funext a0
    rw [gq36, rr36]
    simp only [e48 n, l0, l1]
    rfl
def R52 : Nat → (List Int) → (List Int) → Option (Int)
  | 0, _, _ => none
  | _ + 1, a0, a1 => NameX.cmpB (a0, a1)
theorem e52 (n : Nat) : g52 (evalF E n) = R52 n := by cases n <;> rfl
def R45 : Nat → (List Int) → (List Int) → Option (Int)
  | 0, _, _ => none
  | n + 1, a0, a1 => r45 (R52 n)  a0 a1
theorem u45 (n : Nat) (a0 : (List Int)) (a1 : (List Int)) : R45 (n + 1) a0 a1 = r45 (R52 n)  a0 a1 := rfl
theorem e45 : ∀ (n : Nat), g45 (evalF E n) = R45 n
  | 0 => by funext a0 a1; rfl
  | n + 1 => by
    funext a0 a1
    rw [gq45, rr45]
    simp only [e52 n]
    rfl
def R53 : Nat → (List (List Int)) → (List Int) → Option (Int × Bool)
  | 0, _, _ => none
  | n + 1, a0, a1 => r53 (R45 n) (iter (F53_0 (R45 n) ) n) a0 a1
def J53_0 (n m : Nat) : ((List (List Int)) × (List Int) × Int × Int × Int) → Option (((List (List Int)) × (List Int) × Int × Int × Int) ⊕ (Int × Bool)) := iter (F53_0 (R45 n) ) m
theorem j53_0 (n m : Nat) (x : (List (List Int)) × (List Int) × Int × Int × Int) : J53_0 n (m + 1) x = F53_0 (R45 n)  (J53_0 n m) x := rfl
theorem u53 (n : Nat) (a0 : (List (List Int))) (a1 : (List Int)) : R53 (n + 1) a0 a1 = r53 (R45 n) (J53_0 n n) a0 a1 := rfl
theorem e53 : ∀ (n : Nat), g53 (evalF E n) = R53 n
  | 0 => by funext a0 a1; rfl
  | n + 1 => by
    have l0 : lq53_0 (evalF E n) n n = (iter (F53_0 (R45 n) ) n) := iter_of (g := lq53_0 (evalF E n) n) rfl (fun m y => by rw [lp53_0]; simp only [e45 n]) n
    funext a0 a1
    rw [gq53, rr53]
    simp only [e45 n, l0]
    rfl
def R49 : Nat → (List (List Int)) → (List Int) → Option (Int × Bool)
  | 0, _, _ => none
  | n + 1, a0, a1 => r49 (R53 n)  a0 a1
theorem u49 (n : Nat) (a0 : (List (List Int))) (a1 : (List Int)) : R49 (n + 1) a0 a1 = r49 (R53 n)  a0 a1 := rfl
theorem e49 : ∀ (n : Nat), g49 (evalF E n) = R49 n
  | 0 => by funext a0 a1; rfl
  | n + 1 => by
    funext a0 a1
    rw [gq49, rr49]
    simp only [e53 n]
    rfl
def R37 : Nat → (List (List Int)) → (List (List Int)) → Option ((List Int) × Bool)
  | 0, _, _ => none
  | n + 1, a0, a1 => r37 (R49 n) (iter (F37_0 (R49 n) ) n) a0 a1
def J37_0 (n m : Nat) : ((List (List Int)) × (List (List Int)) × Int × Int × (List Int)) → Option (((List (List Int)) × (List (List Int)) × Int × Int × (List Int)) ⊕ ((List Int) × Bool)) := iter (F37_0 (R49 n) ) m
theorem j37_0 (n m : Nat) (x : (List (List Int)) × (List (List Int)) × Int × Int × (List Int)) : J37_0 n (m + 1) x = F37_0 (R49 n)  (J37_0 n m) x := rfl
theorem u37 (n : Nat) (a0 : (List (List Int))) (a1 : (List (List Int))) : R37 (n + 1) a0 a1 = r37 (R49 n) (J37_0 n n) a0 a1 := rfl
theorem e37 : ∀ (n : Nat), g37 (evalF E n) = R37 n
  | 0 => by funext a0 a1; rfl
  | n + 1 => by
    have l0 : lq37_0 (evalF E n) n n = (iter (F37_0 (R49 n) ) n) := iter_of (g := lq37_0 (evalF E n) n) rfl (fun m y => by rw [lp37_0]; simp only [e49 n]) n
    funext a0 a1
    rw [gq37, rr37]
    simp only [e49 n, l0]
    rfl
def R24 : Nat → (List (List Int)) → (List (List Int)) → Option ((List Int) × (List Int) × Int)
  | 0, _, _ => none
  | n + 1, a0, a1 => r24 (R35 n) (R36 n) (R37 n)  a0 a1
theorem u24 (n : Nat) (a0 : (List (List Int))) (a1 : (List (List Int))) : R24 (n + 1) a0 a1 = r24 (R35 n) (R36 n) (R37 n)  a0 a1 := rfl
theorem e24 : ∀ (n : Nat), g24 (evalF E n) = R24 n
  | 0 => by funext a0 a1; rfl
  | n + 1 => by
    funext a0 a1
    rw [gq24, rr24]
    simp only [e35 n, e36 n, e37 n]
    rfl
def R38 : Nat → (List Int) → Int → Option (Bool)
  | 0, _, _ => none
  | n + 1, a0, a1 => r38   a0 a1
theorem u38 (n : Nat) (a0 : (List Int)) (a1 : Int) : R38 (n + 1) a0 a1 = r38   a0 a1 := rfl
theorem e38 : ∀ (n : Nat), g38 (evalF E n) = R38 n
  | 0 => by funext a0 a1; rfl
  | n + 1 => by
    funext a0 a1
    rw [gq38, rr38]
    rfl
def R25 : Nat → (List Int) → (List Int) → (List (Int × Int)) → Option (Bool)
  | 0, _, _, _ => none
  | n + 1, a0, a1, a2 => r25 (R38 n) (iter (F25_0 (R38 n) ) n) a0 a1 a2
def J25_0 (n m : Nat) : ((List Int) × (List Int) × (List (Int × Int)) × Int × Int × (Int × Int)) → Option (((List Int) × (List Int) × (List (Int × Int)) × Int × Int × (Int × Int)) ⊕ (Bool)) := iter (F25_0 (R38 n) ) m
theorem j25_0 (n m : Nat) (x : (List Int) × (List Int) × (List (Int × Int)) × Int × Int × (Int × Int)) : J25_0 n (m + 1) x = F25_0 (R38 n)  (J25_0 n m) x := rfl
theorem u25 (n : Nat) (a0 : (List Int)) (a1 : (List Int)) (a2 : (List (Int × Int))) : R25 (n + 1) a0 a1 a2 = r25 (R38 n) (J25_0 n n) a0 a1 a2 := rfl
theorem e25 : ∀ (n : Nat), g25 (evalF E n) = R25 n
  | 0 => by funext a0 a1 a2; rfl
  | n + 1 => by
    have l0 : lq25_0 (evalF E n) n n = (iter (F25_0 (R38 n) ) n) := iter_of (g := lq25_0 (evalF E n) n) rfl (fun m y => by rw [lp25_0]; simp only [e38 n]) n
    funext a0 a1 a2
    rw [gq25, rr25]
    simp only [e38 n, l0]
    rfl
def R27 : Nat → (List (List Int)) → Option ((List (List Int)))
  | 0, _ => none
  | n + 1, a0 => r27 (R39 n) (iter (F27_0 (R39 n) ) n) a0
def J27_0 (n m : Nat) : ((List (List Int)) × Int × Int × (List (List Int))) → Option (((List (List Int)) × Int × Int × (List (List Int))) ⊕ ((List (List Int)))) := iter (F27_0 (R39 n) ) m
theorem j27_0 (n m : Nat) (x : (List (List Int)) × Int × Int × (List (List Int))) : J27_0 n (m + 1) x = F27_0 (R39 n)  (J27_0 n m) x := rfl
theorem u27 (n : Nat) (a0 : (List (List Int))) : R27 (n + 1) a0 = r27 (R39 n) (J27_0 n n) a0 := rfl
theorem e27 : ∀ (n : Nat), g27 (evalF E n) = R27 n
  | 0 => by funext a0; rfl
  | n + 1 => by
    have l0 : lq27_0 (evalF E n) n n = (iter (F27_0 (R39 n) ) n) := iter_of (g := lq27_0 (evalF E n) n) rfl (fun m y => by rw [lp27_0]; simp only [e39 n]) n
    funext a0
    rw [gq27, rr27]
    simp only [e39 n, l0]
    rfl
def R26 : Nat → Int → Int → Int → Int → (List (Int × ((List (List Int)) × (List (List Int))))) → (List (List Int)) → (List (List Int)) → Option (Int × Int × (List (Int × ((List (List Int)) × (List (List Int))))) × (List (List Int)) × (List (List Int)))
  | 0, _, _, _, _, _, _, _ => none
  | n + 1, a0, a1, a2, a3, a4, a5, a6 => r26 (R27 n)  a0 a1 a2 a3 a4 a5 a6
theorem u26 (n : Nat) (a0 : Int) (a1 : Int) (a2 : Int) (a3 : Int) (a4 : (List (Int × ((List (List Int)) × (List (List Int)))))) (a5 : (List (List Int))) (a6 : (List (List Int))) : R26 (n + 1) a0 a1 a2 a3 a4 a5 a6 = r26 (R27 n)  a0 a1 a2 a3 a4 a5 a6 := rfl
theorem e26 : ∀ (n : Nat), g26 (evalF E n) = R26 n
  | 0 => by funext a0 a1 a2 a3 a4 a5 a6; rfl
  | n + 1 => by
    funext a0 a1 a2 a3 a4 a5 a6
    rw [gq26, rr26]
    simp only [e27 n]
    rfl
def R8 : Nat → (List (List Int)) → (List (List Int)) → (List (Int × Int)) → Option ((List (Int × ((List (List Int)) × (List (List Int))))) × Int)
  | 0, _, _, _ => none
  | n + 1, a0, a1, a2 => r8 (R24 n) (R25 n) (R26 n) (iter (F8_0 (R24 n) (R25 n) (R26 n) ) n) a0 a1 a2
def J8_0 (n m : Nat) : ((List (Int × Int)) × Int × Int × (List (List Int)) × (List (List Int)) × (List (Int × ((List (List Int)) × (List (List Int))))) × Int × Int) → Option (((List (Int × Int)) × Int × Int × (List (List Int)) × (List (List Int)) × (List (Int × ((List (List Int)) × (List (List Int))))) × Int × Int) ⊕ ((List (Int × ((List (List Int)) × (List (List Int))))) × Int)) := iter (F8_0 (R24 n) (R25 n) (R26 n) ) m
theorem j8_0 (n m : Nat) (x : (List (Int × Int)) × Int × Int × (List (List Int)) × (List (List Int)) × (List (Int × ((List (List Int)) × (List (List Int))))) × Int × Int) : J8_0 n (m + 1) x = F8_0 (R24 n) (R25 n) (R26 n)  (J8_0 n m) x := rfl
theorem u8 (n : Nat) (a0 : (List (List Int))) (a1 : (List (List Int))) (a2 : (List (Int × Int))) : R8 (n + 1) a0 a1 a2 = r8 (R24 n) (R25 n) (R26 n) (J8_0 n n) a0 a1 a2 := rfl
theorem e8 : ∀ (n : Nat), g8 (evalF E n) = R8 n
  | 0 => by funext a0 a1 a2; rfl
  | n + 1 => by
    have l0 : lq8_0 (evalF E n) n n = (iter (F8_0 (R24 n) (R25 n) (R26 n) ) n) := iter_of (g := lq8_0 (evalF E n) n) rfl (fun m y => by rw [lp8_0]; simp only [e24 n, e25 n, e26 n]) n
    funext a0 a1 a2
    rw [gq8, rr8]
    simp only [e24 n, e25 n, e26 n, l0]
    rfl
def R29 : Nat → (List (List Int)) → Option (Bool)
  | 0, _ => none
  | n + 1, a0 => r29  (iter (F29_0  ) n) a0
def J29_0 (n m : Nat) : ((List (List Int)) × Int × Int) → Option (((List (List Int)) × Int × Int) ⊕ (Bool)) := iter (F29_0  ) m
theorem j29_0 (n m : Nat) (x : (List (List Int)) × Int × Int) : J29_0 n (m + 1) x = F29_0   (J29_0 n m) x := rfl
theorem u29 (n : Nat) (a0 : (List (List Int))) : R29 (n + 1) a0 = r29  (J29_0 n n) a0 := rfl
theorem e29 : ∀ (n : Nat), g29 (evalF E n) = R29 n
  | 0 => by funext a0; rfl
  | n + 1 => by
    have l0 : lq29_0 (evalF E n) n n = (iter (F29_0  ) n) := iter_of (g := lq29_0 (evalF E n) n) rfl (fun m y => by rw [lp29_0]) n
    funext a0
    rw [gq29, rr29]
    simp only [l0]
    rfl
def R11 : Nat → (List (Int × ((List (List Int)) × (List (List Int))))) → Option (Bool)
  | 0, _ => none
  | n + 1, a0 => r11 (R29 n) (iter (F11_0 (R29 n) ) n) a0
def J11_0 (n m : Nat) : (Int × (List (Int × ((List (List Int)) × (List (List Int))))) × Int × Int) → Option ((Int × (List (Int × ((List (List Int)) × (List (List Int))))) × Int × Int) ⊕ (Bool)) := iter (F11_0 (R29 n) ) m
theorem j11_0 (n m : Nat) (x : Int × (List (Int × ((List (List Int)) × (List (List Int))))) × Int × Int) : J11_0 n (m + 1) x = F11_0 (R29 n)  (J11_0 n m) x := rfl
theorem u11 (n : Nat) (a0 : (List (Int × ((List (List Int)) × (List (List Int)))))) : R11 (n + 1) a0 = r11 (R29 n) (J11_0 n n) a0 := rfl
theorem e11 : ∀ (n : Nat), g11 (evalF E n) = R11 n
  | 0 => by funext a0; rfl
  | n + 1 => by
    have l0 : lq11_0 (evalF E n) n n = (iter (F11_0 (R29 n) ) n) := iter_of (g := lq11_0 (evalF E n) n) rfl (fun m y => by rw [lp11_0]; simp only [e29 n]) n
    funext a0
    rw [gq11, rr11]
    simp only [e29 n, l0]
    rfl
def R28 : Nat → Int → Int → Int → (List (Int × Int)) → Option (Int × Int × (List (Int × Int)))
  | 0, _, _, _, _ => none
  | n + 1, a0, a1, a2, a3 => r28  (iter (F28_0  ) n) a0 a1 a2 a3
def J28_0 (n m : Nat) : (Int × Int × Int × (List (Int × Int))) → Option ((Int × Int × Int × (List (Int × Int))) ⊕ (Int × Int × (List (Int × Int)))) := iter (F28_0  ) m
theorem j28_0 (n m : Nat) (x : Int × Int × Int × (List (Int × Int))) : J28_0 n (m + 1) x = F28_0   (J28_0 n m) x := rfl
theorem u28 (n : Nat) (a0 : Int) (a1 : Int) (a2 : Int) (a3 : (List (Int × Int))) : R28 (n + 1) a0 a1 a2 a3 = r28  (J28_0 n n) a0 a1 a2 a3 := rfl
theorem e28 : ∀ (n : Nat), g28 (evalF E n) = R28 n
  | 0 => by funext a0 a1 a2 a3; rfl
  | n + 1 => by
    have l0 : lq28_0 (evalF E n) n n = (iter (F28_0  ) n) := iter_of (g := lq28_0 (evalF E n) n) rfl (fun m y => by rw [lp28_0]) n
    funext a0 a1 a2 a3
    rw [gq28, rr28]
    simp only [l0]
    rfl
def R9 : Nat → Int → (List (Int × ((List (List Int)) × (List (List Int))))) → Option ((List (Int × Int)) × Int)
  | 0, _, _ => none
  | n + 1, a0, a1 => r9 (R11 n) (R28 n) (iter (F9_0 (R11 n) (R28 n) ) n) a0 a1
def J9_0 (n m : Nat) : (Int × (List (Int × ((List (List Int)) × (List (List Int))))) × Int × Int × (List (Int × Int)) × Int × Int) → Option ((Int × (List (Int × ((List (List Int)) × (List (List Int))))) × Int × Int × (List (Int × Int)) × Int × Int) ⊕ ((List (Int × Int)) × Int)) := iter (F9_0 (R11 n) (R28 n) ) m
theorem j9_0 (n m : Nat) (x : Int × (List (Int × ((List (List Int)) × (List (List Int))))) × Int × Int × (List (Int × Int)) × Int × Int) : J9_0 n (m + 1) x = F9_0 (R11 n) (R28 n)  (J9_0 n m) x := rfl
theorem u9 (n : Nat) (a0 : Int) (a1 : (List (Int × ((List (List Int)) × (List (List Int)))))) : R9 (n + 1) a0 a1 = r9 (R11 n) (R28 n) (J9_0 n n) a0 a1 := rfl
theorem e9 : ∀ (n : Nat), g9 (evalF E n) = R9 n
  | 0 => by funext a0 a1; rfl
  | n + 1 => by
    have l0 : lq9_0 (evalF E n) n n = (iter (F9_0 (R11 n) (R28 n) ) n) := iter_of (g := lq9_0 (evalF E n) n) rfl (fun m y => by rw [lp9_0]; simp only [e11 n, e28 n]) n
    funext a0 a1
    rw [gq9, rr9]
    simp only [e11 n, e28 n, l0]
    rfl
def R17 : Nat → (List (Int × ((List (List Int)) × (List (List Int))))) → Option (Int × Int)
  | 0, _ => none
  | n + 1, a0 => r17  (iter (F17_0  ) n) a0
def J17_0 (n m : Nat) : (Int × Int × (List (Int × ((List (List Int)) × (List (List Int))))) × Int × Int) → Option ((Int × Int × (List (Int × ((List (List Int)) × (List (List Int))))) × Int × Int) ⊕ (Int × Int)) := iter (F17_0  ) m
theorem j17_0 (n m : Nat) (x : Int × Int × (List (Int × ((List (List Int)) × (List (List Int))))) × Int × Int) : J17_0 n (m + 1) x = F17_0   (J17_0 n m) x := rfl
theorem u17 (n : Nat) (a0 : (List (Int × ((List (List Int)) × (List (List Int)))))) : R17 (n + 1) a0 = r17  (J17_0 n n) a0 := rfl
theorem e17 : ∀ (n : Nat), g17 (evalF E n) = R17 n
  | 0 => by funext a0; rfl
  | n + 1 => by
    have l0 : lq17_0 (evalF E n) n n = (iter (F17_0  ) n) := iter_of (g := lq17_0 (evalF E n) n) rfl (fun m y => by rw [lp17_0]) n
    funext a0
    rw [gq17, rr17]
    simp only [l0]
    rfl
def R10 : Nat → Unit → Option (Bool)
  | 0, _ => none
  | n + 1, u => r10 (R8 n) (R9 n) (R11 n) (R17 n)  u
theorem u10 (n : Nat) (_ : Unit) : R10 (n + 1) () = r10 (R8 n) (R9 n) (R11 n) (R17 n)  () := rfl
theorem e10 : ∀ (n : Nat), g10 (evalF E n) = R10 n
  | 0 => by funext u; rfl
  | n + 1 => by
    funext u
    rw [gq10, rr10]
    simp only [e8 n, e9 n, e11 n, e17 n]
    rfl
def R12 : Nat → (List (Int × Int)) → (List (Int × Int)) → Option (Bool)
  | 0, _, _ => none
  | n + 1, a0, a1 => r12  (iter (F12_0  ) n) a0 a1
def J12_0 (n m : Nat) : ((List (Int × Int)) × (List (Int × Int)) × Int) → Option (((List (Int × Int)) × (List (Int × Int)) × Int) ⊕ (Bool)) := iter (F12_0  ) m
theorem j12_0 (n m : Nat) (x : (List (Int × Int)) × (List (Int × Int)) × Int) : J12_0 n (m + 1) x = F12_0   (J12_0 n m) x := rfl
theorem u12 (n : Nat) (a0 : (List (Int × Int))) (a1 : (List (Int × Int))) : R12 (n + 1) a0 a1 = r12  (J12_0 n n) a0 a1 := rfl
theorem e12 : ∀ (n : Nat), g12 (evalF E n) = R12 n
  | 0 => by funext a0 a1; rfl
  | n + 1 => by
    have l0 : lq12_0 (evalF E n) n n = (iter (F12_0  ) n) := iter_of (g := lq12_0 (evalF E n) n) rfl (fun m y => by rw [lp12_0]) n
    funext a0 a1
    rw [gq12, rr12]
    simp only [l0]
    rfl
def R13 : Nat → (List (List Int)) → Option (Bool)
  | 0, _ => none
  | n + 1, a0 => r13  (iter (F13_0  ) n) a0
def J13_0 (n m : Nat) : ((List (List Int)) × Int) → Option (((List (List Int)) × Int) ⊕ (Bool)) := iter (F13_0  ) m
theorem j13_0 (n m : Nat) (x : (List (List Int)) × Int) : J13_0 n (m + 1) x = F13_0   (J13_0 n m) x := rfl
theorem u13 (n : Nat) (a0 : (List (List Int))) : R13 (n + 1) a0 = r13  (J13_0 n n) a0 := rfl
theorem e13 : ∀ (n : Nat), g13 (evalF E n) = R13 n
  | 0 => by funext a0; rfl
  | n + 1 => by
    have l0 : lq13_0 (evalF E n) n n = (iter (F13_0  ) n) := iter_of (g := lq13_0 (evalF E n) n) rfl (fun m y => by rw [lp13_0]) n
    funext a0
    rw [gq13, rr13]
    simp only [l0]
    rfl
def R40 : Nat → (List Int) → (List Int) → Option (Bool)
  | 0, _, _ => none
  | n + 1, a0, a1 => r40  (iter (F40_0  ) n) a0 a1
def J40_0 (n m : Nat) : ((List Int) × (List Int) × Int) → Option (((List Int) × (List Int) × Int) ⊕ (Bool)) := iter (F40_0  ) m
theorem j40_0 (n m : Nat) (x : (List Int) × (List Int) × Int) : J40_0 n (m + 1) x = F40_0   (J40_0 n m) x := rfl
theorem u40 (n : Nat) (a0 : (List Int)) (a1 : (List Int)) : R40 (n + 1) a0 a1 = r40  (J40_0 n n) a0 a1 := rfl
theorem e40 : ∀ (n : Nat), g40 (evalF E n) = R40 n
  | 0 => by funext a0 a1; rfl
  | n + 1 => by
    have l0 : lq40_0 (evalF E n) n n = (iter (F40_0  ) n) := iter_of (g := lq40_0 (evalF E n) n) rfl (fun m y => by rw [lp40_0]) n
    funext a0 a1
    rw [gq40, rr40]
    simp only [l0]
    rfl
def R41 : Nat → (List Int) → (List Int) → Option (Bool)
  | 0, _, _ => none
  | n + 1, a0, a1 => r41   a0 a1
theorem u41 (n : Nat) (a0 : (List Int)) (a1 : (List Int)) : R41 (n + 1) a0 a1 = r41   a0 a1 := rfl
theorem e41 : ∀ (n : Nat), g41 (evalF E n) = R41 n
  | 0 => by funext a0 a1; rfl
  | n + 1 => by
    funext a0 a1
    rw [gq41, rr41]
    rfl
def R31 : Nat → (List (List Int)) → Option ((List (List Int)))
  | 0, _ => none
  | n + 1, a0 => r31 (R40 n) (R41 n) (iter (F31_0 (R40 n) (R41 n) ) n) (iter (F31_1 (R40 n) (R41 n) (iter (F31_0 (R40 n) (R41 n) ) n)) n) a0
def J31_0 (n m : Nat) : ((List (List Int)) × Int × Int × (List (List Int))) → Option (((List (List Int)) × Int × Int × (List (List Int))) ⊕ ((List (List Int)))) := iter (F31_0 (R40 n) (R41 n) ) m
theorem j31_0 (n m : Nat) (x : (List (List Int)) × Int × Int × (List (List Int))) : J31_0 n (m + 1) x = F31_0 (R40 n) (R41 n)  (J31_0 n m) x := rfl
def J31_1 (n m : Nat) : ((List (List Int)) × Int × (List (List Int))) → Option (((List (List Int)) × Int × (List (List Int))) ⊕ ((List (List Int)))) := iter (F31_1 (R40 n) (R41 n) (J31_0 n n)) m
theorem j31_1 (n m : Nat) (x : (List (List Int)) × Int × (List (List Int))) : J31_1 n (m + 1) x = F31_1 (R40 n) (R41 n) (J31_0 n n) (J31_1 n m) x := rfl
theorem u31 (n : Nat) (a0 : (List (List Int))) : R31 (n + 1) a0 = r31 (R40 n) (R41 n) (J31_0 n n) (J31_1 n n) a0 := rfl
theorem e31 : ∀ (n : Nat), g31 (evalF E n) = R31 n
  | 0 => by funext a0; rfl
  | n + 1 => by
    have l0 : lq31_0 (evalF E n) n n = (iter (F31_0 (R40 n) (R41 n) ) n) := iter_of (g := lq31_0 (evalF E n) n) rfl (fun m y => by rw [lp31_0]; simp only [e40 n, e41 n]) n
    have l1 : lq31_1 (evalF E n) n n = (iter (F31_1 (R40 n) (R41 n) (iter (F31_0 (R40 n) (R41 n) ) n)) n) := iter_of (g := lq31_1 (evalF E n) n) rfl (fun m y => by rw [lp31_1]; simp only [e40 n, e41 n, l0]) n
    funext a0
    rw [gq31, rr31]
    simp only [e40 n, e41 n, l0, l1]
    rfl
def R42 : Nat → (List (List Int)) → (List Int) → Option (Int × Bool)
  | 0, _, _ => none
  | n + 1, a0, a1 => r42 (R41 n) (iter (F42_0 (R41 n) ) n) a0 a1
def J42_0 (n m : Nat) : ((List (List Int)) × (List Int) × Int) → Option (((List (List Int)) × (List Int) × Int) ⊕ (Int × Bool)) := iter (F42_0 (R41 n) ) m
theorem j42_0 (n m : Nat) (x : (List (List Int)) × (List Int) × Int) : J42_0 n (m + 1) x = F42_0 (R41 n)  (J42_0 n m) x := rfl
theorem u42 (n : Nat) (a0 : (List (List Int))) (a1 : (List Int)) : R42 (n + 1) a0 a1 = r42 (R41 n) (J42_0 n n) a0 a1 := rfl
theorem e42 : ∀ (n : Nat), g42 (evalF E n) = R42 n
  | 0 => by funext a0 a1; rfl
  | n + 1 => by
    have l0 : lq42_0 (evalF E n) n n = (iter (F42_0 (R41 n) ) n) := iter_of (g := lq42_0 (evalF E n) n) rfl (fun m y => by rw [lp42_0]; simp only [e41 n]) n
    funext a0 a1
    rw [gq42, rr42]
    simp only [e41 n, l0]
    rfl
def R32 : Nat → (List (List Int)) → (List (List Int)) → Option ((List Int) × Bool)
  | 0, _, _ => none
  | n + 1, a0, a1 => r32 (R42 n) (iter (F32_0 (R42 n) ) n) a0 a1
def J32_0 (n m : Nat) : ((List (List Int)) × (List (List Int)) × Int × (List Int)) → Option (((List (List Int)) × (List (List Int)) × Int × (List Int)) ⊕ ((List Int) × Bool)) := iter (F32_0 (R42 n) ) m
theorem j32_0 (n m : Nat) (x : (List (List Int)) × (List (List Int)) × Int × (List Int)) : J32_0 n (m + 1) x = F32_0 (R42 n)  (J32_0 n m) x := rfl
theorem u32 (n : Nat) (a0 : (List (List Int))) (a1 : (List (List Int))) : R32 (n + 1) a0 a1 = r32 (R42 n) (J32_0 n n) a0 a1 := rfl
theorem e32 : ∀ (n : Nat), g32 (evalF E n) = R32 n
  | 0 => by funext a0 a1; rfl
  | n + 1 => by
    have l0 : lq32_0 (evalF E n) n n = (iter (F32_0 (R42 n) ) n) := iter_of (g := lq32_0 (evalF E n) n) rfl (fun m y => by rw [lp32_0]; simp only [e42 n]) n
    funext a0 a1
    rw [gq32, rr32]
    simp only [e42 n, l0]
    rfl
def R21 : Nat → (List (List Int)) → (List (List Int)) → Option ((List Int) × (List Int) × Int)
  | 0, _, _ => none
  | n + 1, a0, a1 => r21 (R31 n) (R32 n)  a0 a1
theorem u21 (n : Nat) (a0 : (List (List Int))) (a1 : (List (List Int))) : R21 (n + 1) a0 a1 = r21 (R31 n) (R32 n)  a0 a1 := rfl
theorem e21 : ∀ (n : Nat), g21 (evalF E n) = R21 n
  | 0 => by funext a0 a1; rfl
  | n + 1 => by
    funext a0 a1
    rw [gq21, rr21]
    simp only [e31 n, e32 n]
    rfl
def R22 : Nat → (List Int) → (List Int) → (List (Int × Int)) → Option (Bool)
  | 0, _, _, _ => none
  | n + 1, a0, a1, a2 => r22  (iter (F22_0  ) n) a0 a1 a2
def J22_0 (n m : Nat) : ((List Int) × (List Int) × (List (Int × Int)) × Int) → Option (((List Int) × (List Int) × (List (Int × Int)) × Int) ⊕ (Bool)) := iter (F22_0  ) m
theorem j22_0 (n m : Nat) (x : (List Int) × (List Int) × (List (Int × Int)) × Int) : J22_0 n (m + 1) x = F22_0   (J22_0 n m) x := rfl
theorem u22 (n : Nat) (a0 : (List Int)) (a1 : (List Int)) (a2 : (List (Int × Int))) : R22 (n + 1) a0 a1 a2 = r22  (J22_0 n n) a0 a1 a2 := rfl
theorem e22 : ∀ (n : Nat), g22 (evalF E n) = R22 n
  | 0 => by funext a0 a1 a2; rfl
  | n + 1 => by
    have l0 : lq22_0 (evalF E n) n n = (iter (F22_0  ) n) := iter_of (g := lq22_0 (evalF E n) n) rfl (fun m y => by rw [lp22_0]) n
    funext a0 a1 a2
    rw [gq22, rr22]
    simp only [l0]
    rfl
def R33 : Nat → (List Int) → (List Int) → Option ((List (List Int)))
  | 0, _, _ => none
  | _ + 1, a0, a1 => GridX.behS (a0, a1)
theorem e33 (n : Nat) : g33 (evalF E n) = R33 n := by cases n <;> rfl
def R34 : Nat → (List Int) → (List Int) → (List (List Int)) → Int → Int → Int → Option (Int × Int)
  | 0, _, _, _, _, _, _ => none
  | n + 1, a0, a1, a2, a3, a4, a5 => r34  (iter (F34_0  ) n) (iter (F34_1  (iter (F34_0  ) n)) n) a0 a1 a2 a3 a4 a5
def J34_0 (n m : Nat) : ((List Int) × (List Int) × (List (List Int)) × Int × Int × Int × Int) → Option (((List Int) × (List Int) × (List (List Int)) × Int × Int × Int × Int) ⊕ (Int × Int)) := iter (F34_0  ) m
theorem j34_0 (n m : Nat) (x : (List Int) × (List Int) × (List (List Int)) × Int × Int × Int × Int) : J34_0 n (m + 1) x = F34_0   (J34_0 n m) x := rfl
def J34_1 (n m : Nat) : ((List Int) × (List Int) × (List (List Int)) × Int × Int × Int) → Option (((List Int) × (List Int) × (List (List Int)) × Int × Int × Int) ⊕ (Int × Int)) := iter (F34_1  (J34_0 n n)) m
theorem j34_1 (n m : Nat) (x : (List Int) × (List Int) × (List (List Int)) × Int × Int × Int) : J34_1 n (m + 1) x = F34_1  (J34_0 n n) (J34_1 n m) x := rfl
theorem u34 (n : Nat) (a0 : (List Int)) (a1 : (List Int)) (a2 : (List (List Int))) (a3 : Int) (a4 : Int) (a5 : Int) : R34 (n + 1) a0 a1 a2 a3 a4 a5 = r34  (J34_0 n n) (J34_1 n n) a0 a1 a2 a3 a4 a5 := rfl
theorem e34 : ∀ (n : Nat), g34 (evalF E n) = R34 n
  | 0 => by funext a0 a1 a2 a3 a4 a5; rfl
  | n + 1 => by
    have l0 : lq34_0 (evalF E n) n n = (iter (F34_0  ) n) := iter_of (g := lq34_0 (evalF E n) n) rfl (fun m y => by rw [lp34_0]) n
    have l1 : lq34_1 (evalF E n) n n = (iter (F34_1  (iter (F34_0  ) n)) n) := iter_of (g := lq34_1 (evalF E n) n) rfl (fun m y => by rw [lp34_1]; simp only [l0]) n
    funext a0 a1 a2 a3 a4 a5
    rw [gq34, rr34]
    simp only [l0, l1]
    rfl
def R23 : Nat → (List Int) → (List Int) → Option ((List (Int × Int)))
  | 0, _, _ => none
  | n + 1, a0, a1 => r23 (R33 n) (R34 n) (iter (F23_0 (R33 n) (R34 n) ) n) a0 a1
def J23_0 (n m : Nat) : ((List Int) × (List Int) × (List (List Int)) × Int × Int × Int × (List (Int × Int))) → Option (((List Int) × (List Int) × (List (List Int)) × Int × Int × Int × (List (Int × Int))) ⊕ ((List (Int × Int)))) := iter (F23_0 (R33 n) (R34 n) ) m
theorem j23_0 (n m : Nat) (x : (List Int) × (List Int) × (List (List Int)) × Int × Int × Int × (List (Int × Int))) : J23_0 n (m + 1) x = F23_0 (R33 n) (R34 n)  (J23_0 n m) x := rfl
theorem u23 (n : Nat) (a0 : (List Int)) (a1 : (List Int)) : R23 (n + 1) a0 a1 = r23 (R33 n) (R34 n) (J23_0 n n) a0 a1 := rfl
theorem e23 : ∀ (n : Nat), g23 (evalF E n) = R23 n
  | 0 => by funext a0 a1; rfl
  | n + 1 => by
    have l0 : lq23_0 (evalF E n) n n = (iter (F23_0 (R33 n) (R34 n) ) n) := iter_of (g := lq23_0 (evalF E n) n) rfl (fun m y => by rw [lp23_0]; simp only [e33 n, e34 n]) n
    funext a0 a1
    rw [gq23, rr23]
    simp only [e33 n, e34 n, l0]
    rfl
def R7 : Nat → (List (List Int)) → (List (List Int)) → (List (Int × Int)) → Option (Bool)
  | 0, _, _, _ => none
  | n + 1, a0, a1, a2 => r7 (R8 n) (R9 n) (R10 n) (R11 n) (R12 n) (R13 n) (R17 n) (R21 n) (R22 n) (R23 n) (iter (F7_0 (R8 n) (R9 n) (R10 n) (R11 n) (R12 n) (R13 n) (R17 n) (R21 n) (R22 n) (R23 n) ) n) (iter (F7_1 (R8 n) (R9 n) (R10 n) (R11 n) (R12 n) (R13 n) (R17 n) (R21 n) (R22 n) (R23 n) ) n) a0 a1 a2
def J7_1 (n m : Nat) : ((List (List Int)) × (List (List Int)) × (List (Int × Int)) × Int) → Option (((List (List Int)) × (List (List Int)) × (List (Int × Int)) × Int) ⊕ (Bool)) := iter (F7_1 (R8 n) (R9 n) (R10 n) (R11 n) (R12 n) (R13 n) (R17 n) (R21 n) (R22 n) (R23 n) ) m
theorem j7_1 (n m : Nat) (x : (List (List Int)) × (List (List Int)) × (List (Int × Int)) × Int) : J7_1 n (m + 1) x = F7_1 (R8 n) (R9 n) (R10 n) (R11 n) (R12 n) (R13 n) (R17 n) (R21 n) (R22 n) (R23 n)  (J7_1 n m) x := rfl
def J7_0 (n m : Nat) : ((List (List Int)) × (List (List Int)) × (List (Int × Int)) × Int) → Option (((List (List Int)) × (List (List Int)) × (List (Int × Int)) × Int) ⊕ (Bool)) := iter (F7_0 (R8 n) (R9 n) (R10 n) (R11 n) (R12 n) (R13 n) (R17 n) (R21 n) (R22 n) (R23 n) ) m
theorem j7_0 (n m : Nat) (x : (List (List Int)) × (List (List Int)) × (List (Int × Int)) × Int) : J7_0 n (m + 1) x = F7_0 (R8 n) (R9 n) (R10 n) (R11 n) (R12 n) (R13 n) (R17 n) (R21 n) (R22 n) (R23 n)  (J7_0 n m) x := rfl
theorem u7 (n : Nat) (a0 : (List (List Int))) (a1 : (List (List Int))) (a2 : (List (Int × Int))) : R7 (n + 1) a0 a1 a2 = r7 (R8 n) (R9 n) (R10 n) (R11 n) (R12 n) (R13 n) (R17 n) (R21 n) (R22 n) (R23 n) (J7_0 n n) (J7_1 n n) a0 a1 a2 := rfl
theorem e7 : ∀ (n : Nat), g7 (evalF E n) = R7 n
  | 0 => by funext a0 a1 a2; rfl
  | n + 1 => by
    have l1 : lq7_1 (evalF E n) n n = (iter (F7_1 (R8 n) (R9 n) (R10 n) (R11 n) (R12 n) (R13 n) (R17 n) (R21 n) (R22 n) (R23 n) ) n) := iter_of (g := lq7_1 (evalF E n) n) rfl (fun m y => by rw [lp7_1]; simp only [e8 n, e9 n, e10 n, e11 n, e12 n, e13 n, e17 n, e21 n, e22 n, e23 n]) n
    have l0 : lq7_0 (evalF E n) n n = (iter (F7_0 (R8 n) (R9 n) (R10 n) (R11 n) (R12 n) (R13 n) (R17 n) (R21 n) (R22 n) (R23 n) ) n) := iter_of (g := lq7_0 (evalF E n) n) rfl (fun m y => by rw [lp7_0]; simp only [e8 n, e9 n, e10 n, e11 n, e12 n, e13 n, e17 n, e21 n, e22 n, e23 n]) n
    funext a0 a1 a2
    rw [gq7, rr7]
    simp only [e8 n, e9 n, e10 n, e11 n, e12 n, e13 n, e17 n, e21 n, e22 n, e23 n, l0, l1]
    rfl
theorem law_R (n : Nat) (a0 : (List (List Int))) (a1 : (List (List Int))) (a2 : (List (Int × Int))) : runHow E (evalF E n) n s7 (a0, a1, a2) h7 = R7 (n + 1) a0 a1 a2 := (gq7 n a0 a1 a2).symm.trans (congrFun (congrFun (congrFun (e7 (n + 1)) a0) a1) a2)
theorem okAll : EntriesOK Try.prog NoX 0 E.fns := ⟨trivial,
  trivial,
  trivial,
  trivial,
  trivial,
  trivial,
  trivial,
  ok7 NoX,
  ok8 NoX,
  ok9 NoX,
  ok10 NoX,
  ok11 NoX,
  ok12 NoX,
  ok13 NoX,
  trivial,
  trivial,
  trivial,
  ok17 NoX,
  trivial,
  trivial,
  trivial,
  ok21 NoX,
  ok22 NoX,
  ok23 NoX,
  ok24 NoX,
  ok25 NoX,
  ok26 NoX,
  ok27 NoX,
  ok28 NoX,
  ok29 NoX,
  trivial,
  ok31 NoX,
  ok32 NoX,
  fun _ _ _ h => GridX.Behind_spec NoX_ok h,
  ok34 NoX,
  ok35 NoX,
  ok36 NoX,
  ok37 NoX,
  ok38 NoX,
  fun _ _ _ h => NameX.Clone_spec h,
  ok40 NoX,
  ok41 NoX,
  ok42 NoX,
  fun _ _ _ h => NameX.CloneR_spec h,
  fun _ _ _ h => NameX.SortR_spec h,
  ok45 NoX,
  fun _ _ _ h => NameX.CompactR_spec h,
  trivial,
  fun _ _ _ h => NameX.GrowR_spec h,
  ok49 NoX,
  trivial,
  trivial,
  fun _ _ _ h => NameX.Compare_spec h,
  ok53 NoX, trivial⟩
theorem mixed : Try.prog.follows .mixedOrders = true := by kernel_rfl
theorem calls (n : Nat) : CallOK Try.prog NoX E (evalF E n) := evalF_sound NoX_ok tys mixed (entries_fn okAll) n
end Go.Proofs.Ytpcnidiealmgfaa.EEditBack
