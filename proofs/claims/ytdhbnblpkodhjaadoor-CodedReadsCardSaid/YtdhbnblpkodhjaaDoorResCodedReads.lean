import Derived.Test.YtdhbnblpkodhjaaDoorProg
import Derived.Test.YtdhbnblpkodhjaaDoorAeB
import Derived.Test.YtdhbnblpkodhjaaDoorAppX
import Derived.Test.YtdhbnblpkodhjaaDoorBytesX
namespace Go.Proofs.YtdhbnblpkodhjaaDoor.ECodedReads
open Go Go.Proofs.YtdhbnblpkodhjaaDoor.AE
set_option maxRecDepth 100000
set_option linter.unusedVariables false
-- tatting/tattinglaw26.CodedReads
noncomputable def c5 : Code := match Tryd.f5.body with | some c => c | none => .skip
def s5 : Sig := ⟨⟨[.dat (.slice (.int .u8))], []⟩, ⟨[.dat .bool], []⟩⟩
def hs5 : List (List Nat × LH) := []
noncomputable def h5 : How s5 := .code Tryd.f5 c5 hs5
-- tatting/coded.Encode
noncomputable def c9 : Code := match Tryd.f9.body with | some c => c | none => .skip
def s9 : Sig := ⟨⟨[.dat (.int .i64), .dat (.slice (.pair (.int .i64) (.pair (.slice (.slice (.int .u8))) (.one (.slice (.slice (.int .u8)))))))], []⟩, ⟨[.dat (.slice (.int .u8)), .dat (.int .i64)], []⟩⟩
def hs9 : List (List Nat × LH) := [([0, 1, 0, 1, 1, 1], ⟨[0, 6, 22, 23, 24], ⟨[.dat (.int .i64), .ref 0, .dat (.slice (.pair (.int .i64) (.pair (.slice (.slice (.int .u8))) (.one (.slice (.slice (.int .u8))))))), .dat (.int .i64), .dat (.int .i64)], [.row (.int .u8)]⟩, 0⟩)]
noncomputable def h9 : How s9 := .code Tryd.f9 c9 hs9
-- tatting/tattinglaw26.awake
noncomputable def c11 : Code := match Tryd.f11.body with | some c => c | none => .skip
def s11 : Sig := ⟨⟨[], []⟩, ⟨[.dat .bool], []⟩⟩
def hs11 : List (List Nat × LH) := []
noncomputable def h11 : How s11 := .code Tryd.f11 c11 hs11
-- tatting/coded.Decode
noncomputable def c14 : Code := match Tryd.f14.body with | some c => c | none => .skip
def s14 : Sig := ⟨⟨[.dat (.slice (.int .u8))], []⟩, ⟨[.dat (.int .i64), .dat (.slice (.pair (.int .i64) (.pair (.slice (.slice (.int .u8))) (.one (.slice (.slice (.int .u8))))))), .dat (.int .i64), .dat (.int .i64)], []⟩⟩
def hs14 : List (List Nat × LH) := [([0, 0, 1, 1, 1, 1], ⟨[0, 3, 6, 7], ⟨[.dat (.slice (.int .u8)), .ref 0, .ptr 1 0, .dat (.int .i64)], [.row (.pair (.int .i64) (.pair (.slice (.slice (.int .u8))) (.one (.slice (.slice (.int .u8)))))), .var (.pair (.slice (.int .u8)) (.pair (.int .i64) (.one (.int .i64))))]⟩, 0⟩)]
noncomputable def h14 : How s14 := .code Tryd.f14 c14 hs14
-- tatting/tattingref24.Decode
noncomputable def c15 : Code := match Tryd.f15.body with | some c => c | none => .skip
def s15 : Sig := ⟨⟨[.dat (.slice (.int .u8))], []⟩, ⟨[.dat (.int .i64), .dat (.slice (.pair (.int .i64) (.pair (.slice (.slice (.int .u8))) (.one (.slice (.slice (.int .u8))))))), .dat (.int .i64), .dat (.int .i64)], []⟩⟩
def hs15 : List (List Nat × LH) := [([0, 0, 1, 1, 1, 1, 1], ⟨[0, 6, 7, 10], ⟨[.dat (.slice (.int .u8)), .dat (.int .i64), .dat (.int .i64), .ref 0], [.row (.pair (.int .i64) (.pair (.slice (.slice (.int .u8))) (.one (.slice (.slice (.int .u8))))))]⟩, 2⟩), ([0, 1, 0, 1, 1], ⟨[0, 6, 7, 8], ⟨[.dat (.slice (.int .u8)), .dat (.int .i64), .dat (.int .i64), .dat (.int .i64)], []⟩, 0⟩), ([0, 1, 0, 1, 1, 1, 1, 0, 1, 0, 0, 0, 1, 1, 1, 1, 1], ⟨[0, 6, 7, 10, 12, 13, 15, 16], ⟨[.dat (.slice (.int .u8)), .dat (.int .i64), .dat (.int .i64), .ref 0, .dat (.int .i64), .dat (.int .i64), .ptr 1 0, .dat (.int .i64)], [.row (.pair (.int .i64) (.pair (.slice (.slice (.int .u8))) (.one (.slice (.slice (.int .u8)))))), .vst (.pair (.int .i64) (.pair (.slice (.slice (.int .u8))) (.one (.slice (.slice (.int .u8))))))]⟩, 4⟩)]
noncomputable def h15 : How s15 := .code Tryd.f15 c15 hs15
-- tatting/tattingref24.Same
noncomputable def c16 : Code := match Tryd.f16.body with | some c => c | none => .skip
def s16 : Sig := ⟨⟨[.dat (.slice (.pair (.int .i64) (.pair (.slice (.slice (.int .u8))) (.one (.slice (.slice (.int .u8))))))), .dat (.slice (.pair (.int .i64) (.pair (.slice (.slice (.int .u8))) (.one (.slice (.slice (.int .u8)))))))], []⟩, ⟨[.dat .bool], []⟩⟩
def hs16 : List (List Nat × LH) := [([0, 1, 0, 1, 1], ⟨[0, 1, 5], ⟨[.dat (.slice (.pair (.int .i64) (.pair (.slice (.slice (.int .u8))) (.one (.slice (.slice (.int .u8))))))), .dat (.slice (.pair (.int .i64) (.pair (.slice (.slice (.int .u8))) (.one (.slice (.slice (.int .u8))))))), .dat (.int .i64)], []⟩, 0⟩)]
noncomputable def h16 : How s16 := .code Tryd.f16 c16 hs16
-- tatting/tok.Name
noncomputable def c17 : Code := match Tryd.f17.body with | some c => c | none => .skip
def s17 : Sig := ⟨⟨[.dat (.int .i64)], []⟩, ⟨[.dat .str], []⟩⟩
def hs17 : List (List Nat × LH) := []
noncomputable def h17 : How s17 := .code Tryd.f17 c17 hs17
-- tatting/edit.Good
noncomputable def c18 : Code := match Tryd.f18.body with | some c => c | none => .skip
def s18 : Sig := ⟨⟨[.dat (.slice (.pair (.int .i64) (.pair (.slice (.slice (.int .u8))) (.one (.slice (.slice (.int .u8)))))))], []⟩, ⟨[.dat .bool], []⟩⟩
def hs18 : List (List Nat × LH) := [([0, 1, 0, 1, 1], ⟨[3, 6, 7, 8], ⟨[.dat (.int .i64), .dat (.slice (.pair (.int .i64) (.pair (.slice (.slice (.int .u8))) (.one (.slice (.slice (.int .u8))))))), .dat (.int .i64), .dat (.int .i64)], []⟩, 0⟩)]
noncomputable def h18 : How s18 := .code Tryd.f18 c18 hs18
-- tatting/coded.fits
noncomputable def c19 : Code := match Tryd.f19.body with | some c => c | none => .skip
def s19 : Sig := ⟨⟨[.dat (.int .i64), .dat (.slice (.slice (.int .u8)))], []⟩, ⟨[.dat .bool], []⟩⟩
def hs19 : List (List Nat × LH) := [([0, 1, 0, 1, 1], ⟨[0, 10, 11, 12], ⟨[.dat (.int .i64), .dat (.slice (.slice (.int .u8))), .dat (.int .i64), .dat (.int .i64)], []⟩, 0⟩)]
noncomputable def h19 : How s19 := .code Tryd.f19 c19 hs19
-- tatting/coded.number
noncomputable def c20 : Code := match Tryd.f20.body with | some c => c | none => .skip
def s20 : Sig := ⟨⟨[.ref 0, .dat (.int .i64)], [.row (.int .u8)]⟩, ⟨[.ref 1], [.dead, .row (.int .u8)]⟩⟩
def hs20 : List (List Nat × LH) := []
noncomputable def h20 : How s20 := .code Tryd.f20 c20 hs20
-- tatting/coded.tokens
noncomputable def c21 : Code := match Tryd.f21.body with | some c => c | none => .skip
def s21 : Sig := ⟨⟨[.ref 0, .dat (.slice (.slice (.int .u8)))], [.row (.int .u8)]⟩, ⟨[.ref 1], [.dead, .row (.int .u8)]⟩⟩
def hs21 : List (List Nat × LH) := [([0, 1, 0, 1], ⟨[0, 7, 8, 9], ⟨[.ref 1, .dat (.slice (.slice (.int .u8))), .dat (.int .i64), .dat (.int .i64)], [.dead, .row (.int .u8)]⟩, 0⟩)]
noncomputable def h21 : How s21 := .code Tryd.f21 c21 hs21
-- tatting/tattingref1.Name
noncomputable def c22 : Code := match Tryd.f22.body with | some c => c | none => .skip
def s22 : Sig := ⟨⟨[.dat (.int .i64)], []⟩, ⟨[.dat .str], []⟩⟩
def hs22 : List (List Nat × LH) := []
noncomputable def h22 : How s22 := .code Tryd.f22 c22 hs22
-- tatting/tattingref1.Is
noncomputable def c25 : Code := match Tryd.f25.body with | some c => c | none => .skip
def s25 : Sig := ⟨⟨[.dat (.int .i64), .dat (.slice (.int .u8))], []⟩, ⟨[.dat .bool], []⟩⟩
def hs25 : List (List Nat × LH) := [([0, 1, 0, 1, 1, 1], ⟨[1, 5], ⟨[.dat (.slice (.int .u8)), .dat (.int .i64)], []⟩, 0⟩)]
noncomputable def h25 : How s25 := .code Tryd.f25 c25 hs25
-- (*tatting/coded.reader).first
noncomputable def c26 : Code := match Tryd.f26.body with | some c => c | none => .skip
def s26 : Sig := ⟨⟨[.ptr 0 0], [.var (.pair (.slice (.int .u8)) (.pair (.int .i64) (.one (.int .i64))))]⟩, ⟨[.dat .bool], [.var (.pair (.slice (.int .u8)) (.pair (.int .i64) (.one (.int .i64))))]⟩⟩
def hs26 : List (List Nat × LH) := [([0, 1, 0, 1], ⟨[0, 5, 6, 7], ⟨[.ptr 0 0, .dat (.slice (.int .i64)), .dat (.int .i64), .dat (.int .i64)], [.var (.pair (.slice (.int .u8)) (.pair (.int .i64) (.one (.int .i64))))]⟩, 0⟩)]
noncomputable def h26 : How s26 := .code Tryd.f26 c26 hs26
-- (*tatting/coded.reader).line
noncomputable def c27 : Code := match Tryd.f27.body with | some c => c | none => .skip
def s27 : Sig := ⟨⟨[.ptr 0 0], [.var (.pair (.slice (.int .u8)) (.pair (.int .i64) (.one (.int .i64))))]⟩, ⟨[.dat (.int .i64), .dat (.int .i64), .dat (.int .i64), .dat .bool], [.var (.pair (.slice (.int .u8)) (.pair (.int .i64) (.one (.int .i64))))]⟩⟩
def hs27 : List (List Nat × LH) := []
noncomputable def h27 : How s27 := .code Tryd.f27 c27 hs27
-- (*tatting/coded.reader).tokens
noncomputable def c28 : Code := match Tryd.f28.body with | some c => c | none => .skip
def s28 : Sig := ⟨⟨[.ptr 0 0, .dat (.int .i64)], [.var (.pair (.slice (.int .u8)) (.pair (.int .i64) (.one (.int .i64))))]⟩, ⟨[.dat (.slice (.slice (.int .u8))), .dat (.int .i64), .dat .bool], [.var (.pair (.slice (.int .u8)) (.pair (.int .i64) (.one (.int .i64))))]⟩⟩
def hs28 : List (List Nat × LH) := [([0, 1, 0, 1], ⟨[0, 4, 10, 11], ⟨[.ptr 0 0, .ref 1, .dat (.int .i64), .dat (.int .i64)], [.var (.pair (.slice (.int .u8)) (.pair (.int .i64) (.one (.int .i64)))), .row (.slice (.int .u8))]⟩, 0⟩)]
noncomputable def h28 : How s28 := .code Tryd.f28 c28 hs28
-- (*tatting/coded.reader).text
noncomputable def c29 : Code := match Tryd.f29.body with | some c => c | none => .skip
def s29 : Sig := ⟨⟨[.ptr 0 0, .dat .str], [.var (.pair (.slice (.int .u8)) (.pair (.int .i64) (.one (.int .i64))))]⟩, ⟨[.dat .bool], [.var (.pair (.slice (.int .u8)) (.pair (.int .i64) (.one (.int .i64))))]⟩⟩
def hs29 : List (List Nat × LH) := []
noncomputable def h29 : How s29 := .code Tryd.f29 c29 hs29
-- tatting/tattingref24.sign
noncomputable def c30 : Code := match Tryd.f30.body with | some c => c | none => .skip
def s30 : Sig := ⟨⟨[.dat (.slice (.int .u8)), .dat (.int .i64), .dat (.int .u8)], []⟩, ⟨[.dat .bool], []⟩⟩
def hs30 : List (List Nat × LH) := []
noncomputable def h30 : How s30 := .code Tryd.f30 c30 hs30
-- tatting/tattingref24.line
noncomputable def c31 : Code := match Tryd.f31.body with | some c => c | none => .skip
def s31 : Sig := ⟨⟨[.dat (.slice (.int .u8)), .dat (.int .i64)], []⟩, ⟨[.dat (.int .i64), .dat (.int .i64), .dat (.int .i64), .dat (.int .i64)], []⟩⟩
def hs31 : List (List Nat × LH) := []
noncomputable def h31 : How s31 := .code Tryd.f31 c31 hs31
-- tatting/tattingref24.token
noncomputable def c32 : Code := match Tryd.f32.body with | some c => c | none => .skip
def s32 : Sig := ⟨⟨[.dat (.int .i64), .dat (.slice (.int .u8)), .dat (.int .i64)], []⟩, ⟨[.dat (.slice (.int .u8)), .dat (.int .i64)], []⟩⟩
def hs32 : List (List Nat × LH) := []
noncomputable def h32 : How s32 := .code Tryd.f32 c32 hs32
-- tatting/tattingref1.SameTokens
noncomputable def c33 : Code := match Tryd.f33.body with | some c => c | none => .skip
def s33 : Sig := ⟨⟨[.dat (.slice (.slice (.int .u8))), .dat (.slice (.slice (.int .u8)))], []⟩, ⟨[.dat .bool], []⟩⟩
def hs33 : List (List Nat × LH) := [([0, 1, 0, 1, 1], ⟨[0, 1, 5], ⟨[.dat (.slice (.slice (.int .u8))), .dat (.slice (.slice (.int .u8))), .dat (.int .i64)], []⟩, 0⟩)]
noncomputable def h33 : How s33 := .code Tryd.f33 c33 hs33
-- tatting/edit.all
noncomputable def c34 : Code := match Tryd.f34.body with | some c => c | none => .skip
def s34 : Sig := ⟨⟨[.dat (.slice (.slice (.int .u8)))], []⟩, ⟨[.dat .bool], []⟩⟩
def hs34 : List (List Nat × LH) := [([0, 1, 0, 1], ⟨[5, 6, 7], ⟨[.dat (.slice (.slice (.int .u8))), .dat (.int .i64), .dat (.int .i64)], []⟩, 0⟩)]
noncomputable def h34 : How s34 := .code Tryd.f34 c34 hs34
-- tatting/tok.Is
noncomputable def c35 : Code := match Tryd.f35.body with | some c => c | none => .skip
def s35 : Sig := ⟨⟨[.dat (.int .i64), .dat (.slice (.int .u8))], []⟩, ⟨[.dat .bool], []⟩⟩
def hs35 : List (List Nat × LH) := []
noncomputable def h35 : How s35 := .code Tryd.f35 c35 hs35
-- strconv.AppendInt
noncomputable def c36 : Code := match Tryd.f36.body with | some c => c | none => .skip
def s36 : Sig := ⟨⟨[.ref 0, .dat (.int .i64), .dat (.int .i64)], [.row (.int .u8)]⟩, ⟨[.ref 1], [.dead, .row (.int .u8)]⟩⟩
def hs36 : List (List Nat × LH) := []
noncomputable def h36 : How s36 := .code Tryd.f36 c36 hs36
-- (*tatting/coded.reader).number
noncomputable def c37 : Code := match Tryd.f37.body with | some c => c | none => .skip
def s37 : Sig := ⟨⟨[.ptr 0 0], [.var (.pair (.slice (.int .u8)) (.pair (.int .i64) (.one (.int .i64))))]⟩, ⟨[.dat (.int .i64), .dat .bool], [.var (.pair (.slice (.int .u8)) (.pair (.int .i64) (.one (.int .i64))))]⟩⟩
def hs37 : List (List Nat × LH) := [([0, 0, 1, 1], ⟨[0, 4, 5], ⟨[.ptr 0 0, .dat (.int .i64), .dat (.int .i64)], [.var (.pair (.slice (.int .u8)) (.pair (.int .i64) (.one (.int .i64))))]⟩, 0⟩)]
noncomputable def h37 : How s37 := .code Tryd.f37 c37 hs37
-- (*tatting/coded.reader).token
noncomputable def c38 : Code := match Tryd.f38.body with | some c => c | none => .skip
def s38 : Sig := ⟨⟨[.ptr 0 0], [.var (.pair (.slice (.int .u8)) (.pair (.int .i64) (.one (.int .i64))))]⟩, ⟨[.dat (.slice (.int .u8)), .dat .bool], [.var (.pair (.slice (.int .u8)) (.pair (.int .i64) (.one (.int .i64))))]⟩⟩
def hs38 : List (List Nat × LH) := []
noncomputable def h38 : How s38 := .code Tryd.f38 c38 hs38
-- bytes.HasPrefix
noncomputable def c39 : Code := match Tryd.f39.body with | some c => c | none => .skip
def s39 : Sig := ⟨⟨[.dat (.slice (.int .u8)), .dat (.slice (.int .u8))], []⟩, ⟨[.dat .bool], []⟩⟩
def hs39 : List (List Nat × LH) := []
noncomputable def h39 : How s39 := .code Tryd.f39 c39 hs39
-- tatting/tattingref24.Number
noncomputable def c40 : Code := match Tryd.f40.body with | some c => c | none => .skip
def s40 : Sig := ⟨⟨[.dat (.slice (.int .u8)), .dat (.int .i64), .dat (.int .i64)], []⟩, ⟨[.dat (.int .i64), .dat (.int .i64)], []⟩⟩
def hs40 : List (List Nat × LH) := [([0, 0, 1, 1], ⟨[0, 1, 2, 8, 9], ⟨[.dat (.slice (.int .u8)), .dat (.int .i64), .dat (.int .i64), .dat (.int .i64), .dat (.int .i64)], []⟩, 0⟩)]
noncomputable def h40 : How s40 := .code Tryd.f40 c40 hs40
-- bytes.IndexByte
noncomputable def c41 : Code := match Tryd.f41.body with | some c => c | none => .skip
def s41 : Sig := ⟨⟨[.dat (.slice (.int .u8)), .dat (.int .u8)], []⟩, ⟨[.dat (.int .i64)], []⟩⟩
def hs41 : List (List Nat × LH) := []
noncomputable def h41 : How s41 := .code Tryd.f41 c41 hs41
-- internal/strconv.AppendInt
noncomputable def c42 : Code := match Tryd.f42.body with | some c => c | none => .skip
def s42 : Sig := ⟨⟨[.ref 0, .dat (.int .i64), .dat (.int .i64)], [.row (.int .u8)]⟩, ⟨[.ref 1], [.dead, .row (.int .u8)]⟩⟩
def hs42 : List (List Nat × LH) := []
noncomputable def h42 : How s42 := .code Tryd.f42 c42 hs42
-- bytes.Equal
noncomputable def c44 : Code := match Tryd.f44.body with | some c => c | none => .skip
def s44 : Sig := ⟨⟨[.dat (.slice (.int .u8)), .dat (.slice (.int .u8))], []⟩, ⟨[.dat .bool], []⟩⟩
def hs44 : List (List Nat × LH) := []
noncomputable def h44 : How s44 := .code Tryd.f44 c44 hs44
-- bytes.Clone
def s43 : Sig := ⟨⟨[.dat (.slice (.int .u8))], []⟩, ⟨[.dat (.slice (.int .u8))], []⟩⟩
def h43 : How s43 := .orc (fun _ x => BytesX.cloneB x)
-- internal/bytealg.IndexByte
def s45 : Sig := ⟨⟨[.dat (.slice (.int .u8)), .dat (.int .u8)], []⟩, ⟨[.dat (.int .i64)], []⟩⟩
def h45 : How s45 := .orc (fun _ x => BytesX.indexB x)
-- internal/strconv.AppendUint
def s46 : Sig := ⟨⟨[.ref 0, .dat (.int .u64), .dat (.int .i64)], [.row (.int .u8)]⟩, ⟨[.ref 1], [.dead, .row (.int .u8)]⟩⟩
def h46 : How s46 := .orc (fun _ x => BytesX.appU x)
noncomputable def E : Env := {
  fns := [⟨Sig.none, .none⟩,
    ⟨Sig.none, .none⟩,
    ⟨Sig.none, .none⟩,
    ⟨Sig.none, .none⟩,
    ⟨Sig.none, .none⟩,
    ⟨s5, h5⟩,
    ⟨Sig.none, .none⟩,
    ⟨Sig.none, .none⟩,
    ⟨Sig.none, .none⟩,
    ⟨s9, h9⟩,
    ⟨Sig.none, .none⟩,
    ⟨s11, h11⟩,
    ⟨Sig.none, .none⟩,
    ⟨Sig.none, .none⟩,
    ⟨s14, h14⟩,
    ⟨s15, h15⟩,
    ⟨s16, h16⟩,
    ⟨s17, h17⟩,
    ⟨s18, h18⟩,
    ⟨s19, h19⟩,
    ⟨s20, h20⟩,
    ⟨s21, h21⟩,
    ⟨s22, h22⟩,
    ⟨Sig.none, .none⟩,
    ⟨Sig.none, .none⟩,
    ⟨s25, h25⟩,
    ⟨s26, h26⟩,
    ⟨s27, h27⟩,
    ⟨s28, h28⟩,
    ⟨s29, h29⟩,
    ⟨s30, h30⟩,
    ⟨s31, h31⟩,
    ⟨s32, h32⟩,
    ⟨s33, h33⟩,
    ⟨s34, h34⟩,
    ⟨s35, h35⟩,
    ⟨s36, h36⟩,
    ⟨s37, h37⟩,
    ⟨s38, h38⟩,
    ⟨s39, h39⟩,
    ⟨s40, h40⟩,
    ⟨s41, h41⟩,
    ⟨s42, h42⟩,
    ⟨s43, h43⟩,
    ⟨s44, h44⟩,
    ⟨s45, h45⟩,
    ⟨s46, h46⟩],
  tys := [none,
    none,
    some ⟨(.int .i64), 0⟩,
    some ⟨(.int .i64), 0⟩,
    some ⟨.bool, 0⟩,
    some ⟨(.int .u8), 0⟩,
    none,
    none,
    none,
    some ⟨.str, 0⟩,
    none,
    none,
    none,
    none,
    none,
    none,
    none,
    none,
    none,
    none,
    none,
    none,
    some ⟨(.slice (.int .u8)), 1⟩,
    some ⟨(.int .i64), 0⟩,
    none,
    none,
    some ⟨(.slice (.slice (.int .u8))), 24⟩,
    none,
    some ⟨(.pair (.int .i64) (.pair (.slice (.slice (.int .u8))) (.one (.slice (.slice (.int .u8)))))), 0⟩,
    some ⟨(.slice (.pair (.int .i64) (.pair (.slice (.slice (.int .u8))) (.one (.slice (.slice (.int .u8))))))), 56⟩,
    none,
    none,
    none,
    none,
    none,
    none,
    none,
    none,
    none,
    none,
    none,
    none,
    none,
    none,
    none,
    none,
    none,
    none,
    none,
    some ⟨(.pair (.slice (.int .u8)) (.pair (.int .i64) (.one (.int .i64)))), 0⟩,
    none,
    none,
    none,
    none,
    none,
    none,
    none,
    none,
    none,
    none,
    none,
    none,
    none,
    some ⟨(.slice (.int .i64)), 8⟩,
    none,
    none,
    none,
    none,
    none,
    none,
    none,
    none,
    some ⟨(.int .u64), 0⟩,
    none,
    none,
    none,
    none,
    none,
    none,
    none,
    none,
    none,
    none,
    none,
    none,
    none,
    none,
    none,
    none,
    none,
    none,
    none,
    none,
    none,
    none,
    none,
    none,
    none,
    none,
    none,
    none,
    none,
    none,
    none,
    none,
    none],
  vss := [(26, 114), (26, 119), (26, 120), (26, 125), (28, 15), (28, 1000092)] }
theorem tys : tysOK Tryd.prog E.tys = true := by decide +kernel
theorem ok5 (X : ExtRep) : EntryOK Tryd.prog X 5 s5 h5 := ⟨Tryd.func5, rfl, by decide, by decide⟩
theorem ok9 (X : ExtRep) : EntryOK Tryd.prog X 9 s9 h9 := ⟨Tryd.func9, rfl, by decide, by decide⟩
theorem ok11 (X : ExtRep) : EntryOK Tryd.prog X 11 s11 h11 := ⟨Tryd.func11, rfl, by decide, by decide⟩
theorem ok14 (X : ExtRep) : EntryOK Tryd.prog X 14 s14 h14 := ⟨Tryd.func14, rfl, by decide, by decide⟩
theorem ok15 (X : ExtRep) : EntryOK Tryd.prog X 15 s15 h15 := ⟨Tryd.func15, rfl, by decide, by decide⟩
theorem ok16 (X : ExtRep) : EntryOK Tryd.prog X 16 s16 h16 := ⟨Tryd.func16, rfl, by decide, by decide⟩
theorem ok17 (X : ExtRep) : EntryOK Tryd.prog X 17 s17 h17 := ⟨Tryd.func17, rfl, by decide, by decide⟩
theorem ok18 (X : ExtRep) : EntryOK Tryd.prog X 18 s18 h18 := ⟨Tryd.func18, rfl, by decide, by decide⟩
theorem ok19 (X : ExtRep) : EntryOK Tryd.prog X 19 s19 h19 := ⟨Tryd.func19, rfl, by decide, by decide⟩
theorem ok20 (X : ExtRep) : EntryOK Tryd.prog X 20 s20 h20 := ⟨Tryd.func20, rfl, by decide, by decide⟩
theorem ok21 (X : ExtRep) : EntryOK Tryd.prog X 21 s21 h21 := ⟨Tryd.func21, rfl, by decide, by decide⟩
theorem ok22 (X : ExtRep) : EntryOK Tryd.prog X 22 s22 h22 := ⟨Tryd.func22, rfl, by decide, by decide⟩
theorem ok25 (X : ExtRep) : EntryOK Tryd.prog X 25 s25 h25 := ⟨Tryd.func25, rfl, by decide, by decide⟩
theorem ok26 (X : ExtRep) : EntryOK Tryd.prog X 26 s26 h26 := ⟨Tryd.func26, rfl, by decide, by decide⟩
theorem ok27 (X : ExtRep) : EntryOK Tryd.prog X 27 s27 h27 := ⟨Tryd.func27, rfl, by decide, by decide⟩
theorem ok28 (X : ExtRep) : EntryOK Tryd.prog X 28 s28 h28 := ⟨Tryd.func28, rfl, by decide, by decide⟩
theorem ok29 (X : ExtRep) : EntryOK Tryd.prog X 29 s29 h29 := ⟨Tryd.func29, rfl, by decide, by decide⟩
theorem ok30 (X : ExtRep) : EntryOK Tryd.prog X 30 s30 h30 := ⟨Tryd.func30, rfl, by decide, by decide⟩
theorem ok31 (X : ExtRep) : EntryOK Tryd.prog X 31 s31 h31 := ⟨Tryd.func31, rfl, by decide, by decide⟩
theorem ok32 (X : ExtRep) : EntryOK Tryd.prog X 32 s32 h32 := ⟨Tryd.func32, rfl, by decide, by decide⟩
theorem ok33 (X : ExtRep) : EntryOK Tryd.prog X 33 s33 h33 := ⟨Tryd.func33, rfl, by decide, by decide⟩
theorem ok34 (X : ExtRep) : EntryOK Tryd.prog X 34 s34 h34 := ⟨Tryd.func34, rfl, by decide, by decide⟩
theorem ok35 (X : ExtRep) : EntryOK Tryd.prog X 35 s35 h35 := ⟨Tryd.func35, rfl, by decide, by decide⟩
theorem ok36 (X : ExtRep) : EntryOK Tryd.prog X 36 s36 h36 := ⟨Tryd.func36, rfl, by decide, by decide⟩
theorem ok37 (X : ExtRep) : EntryOK Tryd.prog X 37 s37 h37 := ⟨Tryd.func37, rfl, by decide, by decide⟩
theorem ok38 (X : ExtRep) : EntryOK Tryd.prog X 38 s38 h38 := ⟨Tryd.func38, rfl, by decide, by decide⟩
theorem ok39 (X : ExtRep) : EntryOK Tryd.prog X 39 s39 h39 := ⟨Tryd.func39, rfl, by decide, by decide⟩
theorem ok40 (X : ExtRep) : EntryOK Tryd.prog X 40 s40 h40 := ⟨Tryd.func40, rfl, by decide, by decide⟩
theorem ok41 (X : ExtRep) : EntryOK Tryd.prog X 41 s41 h41 := ⟨Tryd.func41, rfl, by decide, by decide⟩
theorem ok42 (X : ExtRep) : EntryOK Tryd.prog X 42 s42 h42 := ⟨Tryd.func42, rfl, by decide, by decide⟩
theorem ok44 (X : ExtRep) : EntryOK Tryd.prog X 44 s44 h44 := ⟨Tryd.func44, rfl, by decide, by decide⟩
-- tatting/tattinglaw26.CodedReads
def r5 (f11 : Unit → Option (Bool)) (f14 : (List Int) → Option (Int × (List (Int × ((List (List Int)) × (List (List Int))))) × Int × Int)) (f15 : (List Int) → Option (Int × (List (Int × ((List (List Int)) × (List (List Int))))) × Int × Int)) (f16 : (List (Int × ((List (List Int)) × (List (List Int))))) → (List (Int × ((List (List Int)) × (List (List Int))))) → Option (Bool)) (a0 : (List Int)) : Option (Bool) :=
Option.bind (f11 ()) fun y1 =>
let v2 : Bool := !y1
bif v2 then
some false
else
let v3 : Int := (a0.length : Int)
let v4 : Bool := decide (v3 > (600 : Int))
bif v4 then
some true
else
Option.bind (f14 a0) fun y5 =>
Option.bind (f15 a0) fun y6 =>
let v7 : Bool := decide (y5.1 = y6.1)
bif v7 == true then
let v8 : Bool := decide (y5.2.2.1 = y6.2.2.1)
bif v8 == true then
let v9 : Bool := decide (y5.2.2.2 = y6.2.2.2)
bif v9 == true then
Option.bind (f16 y5.2.1 y6.2.1) fun y10 =>
some y10
else
some false
else
some false
else
some false
-- tatting/coded.Encode
def F9_0 (f17 : Int → Option (ByteArray)) (f18 : (List (Int × ((List (List Int)) × (List (List Int))))) → Option (Bool)) (f19 : Int → (List (List Int)) → Option (Bool)) (f20 : Int → (List Int) → Option ((List Int))) (f21 : (List (List Int)) → (List Int) → Option ((List Int))) (self : (Int × (List (Int × ((List (List Int)) × (List (List Int))))) × Int × Int × (List Int)) → Option ((Int × (List (Int × ((List (List Int)) × (List (List Int))))) × Int × Int × (List Int)) ⊕ ((List Int) × Int))) (z11 : Int × (List (Int × ((List (List Int)) × (List (List Int))))) × Int × Int × (List Int)) : Option ((Int × (List (Int × ((List (List Int)) × (List (List Int))))) × Int × Int × (List Int)) ⊕ ((List Int) × Int)) :=
let v12 : Bool := decide (z11.2.2.2.1 < z11.2.2.1)
bif v12 then
if 0 ≤ z11.2.2.2.1 ∧ z11.2.2.2.1 < (z11.2.1.length : Int) then
let v13 : (Int × ((List (List Int)) × (List (List Int)))) := z11.2.1.getD z11.2.2.2.1.toNat ((0 : Int), (([] : List (List Int)), ([] : List (List Int))))
Option.bind (f19 z11.1 v13.2.1) fun y14 =>
let v15 : Bool := !y14
bif v15 == false then
Option.bind (f19 z11.1 v13.2.2) fun y16 =>
let v17 : Bool := !y16
bif v17 then
some (.inr (([] : List Int), (1 : Int)))
else
let v18 : (List Int) := ([(64 : Int)] : List Int)
if (z11.2.2.2.2.length + v18.length) * 1 ≤ 140737488355328 ∧ z11.2.2.2.2.length + v18.length ≤ 140737488355328 then
let v19 : (List Int) := z11.2.2.2.2 ++ v18
Option.bind (f20 v13.1 v19) fun y20 =>
let v21 : (List Int) := ([(32 : Int)] : List Int)
if (y20.length + v21.length) * 1 ≤ 140737488355328 ∧ y20.length + v21.length ≤ 140737488355328 then
let v22 : (List Int) := y20 ++ v21
let v23 : Int := (v13.2.1.length : Int)
Option.bind (f20 v23 v22) fun y24 =>
let v25 : (List Int) := ([(32 : Int)] : List Int)
if (y24.length + v25.length) * 1 ≤ 140737488355328 ∧ y24.length + v25.length ≤ 140737488355328 then
let v26 : (List Int) := y24 ++ v25
let v27 : Int := (v13.2.2.length : Int)
Option.bind (f20 v27 v26) fun y28 =>
let v29 : (List Int) := ([(10 : Int)] : List Int)
if (y28.length + v29.length) * 1 ≤ 140737488355328 ∧ y28.length + v29.length ≤ 140737488355328 then
let v30 : (List Int) := y28 ++ v29
Option.bind (f21 v13.2.1 v30) fun y31 =>
Option.bind (f21 v13.2.2 y31) fun y32 =>
let v33 : Int := IntKind.wrap .i64 (z11.2.2.2.1 + (1 : Int))
self (z11.1, z11.2.1, z11.2.2.1, v33, y32)
else none
else none
else none
else none
else
some (.inr (([] : List Int), (1 : Int)))
else none
else
some (.inl (z11.1, z11.2.1, z11.2.2.1, z11.2.2.2.1, z11.2.2.2.2))
def r9 (f17 : Int → Option (ByteArray)) (f18 : (List (Int × ((List (List Int)) × (List (List Int))))) → Option (Bool)) (f19 : Int → (List (List Int)) → Option (Bool)) (f20 : Int → (List Int) → Option ((List Int))) (f21 : (List (List Int)) → (List Int) → Option ((List Int))) (lp0 : (Int × (List (Int × ((List (List Int)) × (List (List Int))))) × Int × Int × (List Int)) → Option ((Int × (List (Int × ((List (List Int)) × (List (List Int))))) × Int × Int × (List Int)) ⊕ ((List Int) × Int))) (a0 : Int) (a1 : (List (Int × ((List (List Int)) × (List (List Int)))))) : Option ((List Int) × Int) :=
Option.bind (f17 a0) fun y1 =>
let v2 : Bool := strEq y1 (⟨#[]⟩ : ByteArray)
bif v2 == false then
Option.bind (f18 a1) fun y3 =>
let v4 : Bool := !y3
bif v4 then
some (([] : List Int), (1 : Int))
else
Option.bind (f17 a0) fun y5 =>
if (⟨#[116, 97, 116, 116, 105, 110, 103, 32, 49, 32]⟩ : ByteArray).size + y5.size ≤ 140737488355328 then
let v6 : ByteArray := (⟨#[116, 97, 116, 116, 105, 110, 103, 32, 49, 32]⟩ : ByteArray) ++ y5
if v6.size + (⟨#[10]⟩ : ByteArray).size ≤ 140737488355328 then
let v7 : ByteArray := v6 ++ (⟨#[10]⟩ : ByteArray)
if v7.size ≤ 140737488355328 then
let v8 : Int := (a1.length : Int)
Option.bind (lp0 (a0, a1, v8, (0 : Int), strBytes v7)) fun s9 => onSum s9 (fun y10 =>
let v35 : (List Int) := strBytes (⟨#[46, 10]⟩ : ByteArray)
if (y10.2.2.2.2.length + v35.length) * 1 ≤ 140737488355328 ∧ y10.2.2.2.2.length + v35.length ≤ 140737488355328 then
let v36 : (List Int) := y10.2.2.2.2 ++ v35
some (v36, (0 : Int))
else none) (fun o34 => some o34)
else none
else none
else none
else
some (([] : List Int), (1 : Int))
-- tatting/tattinglaw26.awake
def r11 (f9 : Int → (List (Int × ((List (List Int)) × (List (List Int))))) → Option ((List Int) × Int)) (f14 : (List Int) → Option (Int × (List (Int × ((List (List Int)) × (List (List Int))))) × Int × Int)) (_ : Unit) : Option (Bool) :=
let v1 : (List Int) := ([(97 : Int)] : List Int)
if 0 < v1.length then
let v2 : (List (List Int)) := ([v1] : List (List Int))
let v3 : (Int × ((List (List Int)) × (List (List Int)))) := ((0 : Int), (v2, ([] : List (List Int))))
let v4 : (List (Int × ((List (List Int)) × (List (List Int))))) := ([v3] : List (Int × ((List (List Int)) × (List (List Int)))))
Option.bind (f9 (0 : Int) v4) fun y5 =>
let v6 : (List Int) := ([(116 : Int), (97 : Int), (116 : Int), (116 : Int), (105 : Int), (110 : Int), (103 : Int), (32 : Int), (49 : Int), (32 : Int), (108 : Int), (105 : Int), (110 : Int), (101 : Int), (115 : Int), (10 : Int), (64 : Int), (51 : Int), (32 : Int), (48 : Int), (32 : Int), (49 : Int), (10 : Int), (50 : Int), (58 : Int), (120 : Int), (10 : Int), (10 : Int), (46 : Int), (10 : Int)] : List Int)
if 0 < v6.length then
Option.bind (f14 v6) fun y7 =>
let v8 : Bool := decide (y5.2 = (0 : Int))
bif v8 == true then
let v9 : ByteArray := bytesStr y5.1
let v10 : Bool := strEq v9 (⟨#[116, 97, 116, 116, 105, 110, 103, 32, 49, 32, 98, 121, 116, 101, 115, 10, 64, 48, 32, 49, 32, 48, 10, 49, 58, 97, 10, 46, 10]⟩ : ByteArray)
bif v10 == true then
let v11 : Bool := decide (y7.2.2.2 = (0 : Int))
bif v11 == true then
let v12 : Bool := decide (y7.2.2.1 = (0 : Int))
bif v12 == true then
let v13 : Bool := decide (y7.1 = (1 : Int))
bif v13 == true then
let v14 : Int := (y7.2.1.length : Int)
let v15 : Bool := decide (v14 = (1 : Int))
bif v15 == true then
if 0 ≤ (0 : Int) ∧ (0 : Int) < (y7.2.1.length : Int) then
let v16 : (Int × ((List (List Int)) × (List (List Int)))) := y7.2.1.getD (0 : Int).toNat ((0 : Int), (([] : List (List Int)), ([] : List (List Int))))
let v17 : Bool := decide (v16.1 = (3 : Int))
bif v17 == true then
if 0 ≤ (0 : Int) ∧ (0 : Int) < (y7.2.1.length : Int) then
let v18 : (Int × ((List (List Int)) × (List (List Int)))) := y7.2.1.getD (0 : Int).toNat ((0 : Int), (([] : List (List Int)), ([] : List (List Int))))
let v19 : Int := (v18.2.2.length : Int)
let v20 : Bool := decide (v19 = (1 : Int))
bif v20 == true then
if 0 ≤ (0 : Int) ∧ (0 : Int) < (y7.2.1.length : Int) then
let v21 : (Int × ((List (List Int)) × (List (List Int)))) := y7.2.1.getD (0 : Int).toNat ((0 : Int), (([] : List (List Int)), ([] : List (List Int))))
if 0 ≤ (0 : Int) ∧ (0 : Int) < (v21.2.2.length : Int) then
let v22 : (List Int) := v21.2.2.getD (0 : Int).toNat ([] : List Int)
let v23 : ByteArray := bytesStr v22
let v24 : Bool := strEq v23 (⟨#[120, 10]⟩ : ByteArray)
some v24
else none
else none
else
some false
else none
else
some false
else none
else
some false
else
some false
else
some false
else
some false
else
some false
else
some false
else none
else none
-- tatting/coded.Decode
def F14_0 (f26 : ((List Int) × (Int × Int)) → Option (Bool × ((List Int) × (Int × Int)))) (f27 : ((List Int) × (Int × Int)) → Option (Int × Int × Int × Bool × ((List Int) × (Int × Int)))) (f28 : Int → ((List Int) × (Int × Int)) → Option ((List (List Int)) × Int × Bool × ((List Int) × (Int × Int)))) (f29 : ByteArray → ((List Int) × (Int × Int)) → Option (Bool × ((List Int) × (Int × Int)))) (self : ((List Int) × Int × (List (Int × ((List (List Int)) × (List (List Int))))) × ((List Int) × (Int × Int))) → Option (((List Int) × Int × (List (Int × ((List (List Int)) × (List (List Int))))) × ((List Int) × (Int × Int))) ⊕ (Int × (List (Int × ((List (List Int)) × (List (List Int))))) × Int × Int))) (z6 : (List Int) × Int × (List (Int × ((List (List Int)) × (List (List Int))))) × ((List Int) × (Int × Int))) : Option (((List Int) × Int × (List (Int × ((List (List Int)) × (List (List Int))))) × ((List Int) × (Int × Int))) ⊕ (Int × (List (Int × ((List (List Int)) × (List (List Int))))) × Int × Int)) :=
let v7 : Int := (z6.1.length : Int)
let v8 : Bool := decide (z6.2.2.2.2.1 < v7)
bif v8 == true then
if 0 ≤ z6.2.2.2.2.1 ∧ z6.2.2.2.2.1 < (z6.1.length : Int) then
let v9 : Int := z6.1.getD z6.2.2.2.2.1.toNat (0 : Int)
let v10 : Bool := decide (v9 = (64 : Int))
bif v10 then
let v11 : (Int × ((List (List Int)) × (List (List Int)))) := ((0 : Int), (([] : List (List Int)), ([] : List (List Int))))
Option.bind (f27 z6.2.2.2) fun y12 =>
let v13 : Bool := !y12.2.2.2.1
bif v13 == false then
let v14 : Bool := decide (y12.1 ≤ z6.2.1)
bif v14 == false then
let v15 : Int := IntKind.wrap .i64 (y12.2.1 + y12.2.2.1)
let v16 : Bool := decide (v15 = (0 : Int))
bif v16 then
some (.inr ((0 : Int), ([] : List (Int × ((List (List Int)) × (List (List Int))))), z6.2.2.2.2.1, (4 : Int)))
else
let v17 : (Int × ((List (List Int)) × (List (List Int)))) := (y12.1, v11.2)
Option.bind (f28 y12.2.1 y12.2.2.2.2) fun y18 =>
let v19 : (Int × ((List (List Int)) × (List (List Int)))) := (v17.1, (y18.1, v17.2.2))
let v20 : Bool := !y18.2.2.1
bif v20 then
some (.inr ((0 : Int), ([] : List (Int × ((List (List Int)) × (List (List Int))))), y18.2.1, (4 : Int)))
else
Option.bind (f28 y12.2.2.1 y18.2.2.2) fun y21 =>
let v22 : (Int × ((List (List Int)) × (List (List Int)))) := (v19.1, (v19.2.1, y21.1))
let v23 : Bool := !y21.2.2.1
bif v23 then
some (.inr ((0 : Int), ([] : List (Int × ((List (List Int)) × (List (List Int))))), y21.2.1, (4 : Int)))
else
let v24 : (List (Int × ((List (List Int)) × (List (List Int))))) := ([v22] : List (Int × ((List (List Int)) × (List (List Int)))))
if (z6.2.2.1.length + v24.length) * 56 ≤ 140737488355328 ∧ z6.2.2.1.length + v24.length ≤ 140737488355328 then
let v25 : (List (Int × ((List (List Int)) × (List (List Int))))) := z6.2.2.1 ++ v24
let v26 : Int := IntKind.wrap .i64 (y12.1 + y12.2.1)
self (z6.1, v26, v25, y21.2.2.2)
else none
else
some (.inr ((0 : Int), ([] : List (Int × ((List (List Int)) × (List (List Int))))), z6.2.2.2.2.1, (4 : Int)))
else
some (.inr ((0 : Int), ([] : List (Int × ((List (List Int)) × (List (List Int))))), z6.2.2.2.2.1, (4 : Int)))
else
some (.inl (z6.1, z6.2.1, z6.2.2.1, z6.2.2.2))
else none
else
some (.inl (z6.1, z6.2.1, z6.2.2.1, z6.2.2.2))
def r14 (f26 : ((List Int) × (Int × Int)) → Option (Bool × ((List Int) × (Int × Int)))) (f27 : ((List Int) × (Int × Int)) → Option (Int × Int × Int × Bool × ((List Int) × (Int × Int)))) (f28 : Int → ((List Int) × (Int × Int)) → Option ((List (List Int)) × Int × Bool × ((List Int) × (Int × Int)))) (f29 : ByteArray → ((List Int) × (Int × Int)) → Option (Bool × ((List Int) × (Int × Int)))) (lp0 : ((List Int) × Int × (List (Int × ((List (List Int)) × (List (List Int))))) × ((List Int) × (Int × Int))) → Option (((List Int) × Int × (List (Int × ((List (List Int)) × (List (List Int))))) × ((List Int) × (Int × Int))) ⊕ (Int × (List (Int × ((List (List Int)) × (List (List Int))))) × Int × Int))) (a0 : (List Int)) : Option (Int × (List (Int × ((List (List Int)) × (List (List Int))))) × Int × Int) :=
let v1 : ((List Int) × (Int × Int)) := (a0, ((0 : Int), (0 : Int)))
Option.bind (f26 v1) fun y2 =>
let v3 : Bool := !y2.1
bif v3 then
some ((0 : Int), ([] : List (Int × ((List (List Int)) × (List (List Int))))), (0 : Int), (4 : Int))
else
Option.bind (lp0 (a0, (-1 : Int), ([] : List (Int × ((List (List Int)) × (List (List Int))))), y2.2)) fun s4 => onSum s4 (fun y5 =>
Option.bind (f29 (⟨#[46, 10]⟩ : ByteArray) y5.2.2.2) fun y28 =>
let v29 : Bool := !y28.1
bif v29 then
some ((0 : Int), ([] : List (Int × ((List (List Int)) × (List (List Int))))), y5.2.2.2.2.1, (4 : Int))
else
let v30 : Int := (y5.1.length : Int)
let v31 : Bool := decide (y28.2.2.1 < v30)
bif v31 then
some ((0 : Int), ([] : List (Int × ((List (List Int)) × (List (List Int))))), y28.2.2.1, (4 : Int))
else
some (y28.2.2.2, y5.2.2.1, (0 : Int), (0 : Int))) (fun o27 => some o27)
-- tatting/tattingref24.Decode
def F15_0 (f22 : Int → Option (ByteArray)) (f30 : (List Int) → Int → Int → Option (Bool)) (f31 : (List Int) → Int → Option (Int × Int × Int × Int)) (f32 : Int → (List Int) → Int → Option ((List Int) × Int)) (lp2 : ((List Int) × Int × Int × Int × Int × Int × (List (Int × ((List (List Int)) × (List (List Int))))) × (Int × ((List (List Int)) × (List (List Int))))) → Option (((List Int) × Int × Int × Int × Int × Int × (List (Int × ((List (List Int)) × (List (List Int))))) × (Int × ((List (List Int)) × (List (List Int))))) ⊕ (Int × (List (Int × ((List (List Int)) × (List (List Int))))) × Int × Int))) (self : ((List Int) × Int × Int × (List (Int × ((List (List Int)) × (List (List Int)))))) → Option (((List Int) × Int × Int × (List (Int × ((List (List Int)) × (List (List Int)))))) ⊕ (Int × (List (Int × ((List (List Int)) × (List (List Int))))) × Int × Int))) (z23 : (List Int) × Int × Int × (List (Int × ((List (List Int)) × (List (List Int)))))) : Option (((List Int) × Int × Int × (List (Int × ((List (List Int)) × (List (List Int)))))) ⊕ (Int × (List (Int × ((List (List Int)) × (List (List Int))))) × Int × Int)) :=
Option.bind (f30 z23.1 z23.2.2.1 (64 : Int)) fun y24 =>
bif y24 then
Option.bind (f31 z23.1 z23.2.2.1) fun y25 =>
let v26 : Bool := decide (y25.2.2.2 < (0 : Int))
bif v26 == false then
let v27 : Int := IntKind.wrap .i64 (y25.2.1 + y25.2.2.1)
let v28 : Bool := decide (v27 = (0 : Int))
bif v28 == false then
let v29 : Int := (z23.2.2.2.length : Int)
let v30 : Bool := decide (v29 > (0 : Int))
bif v30 == true then
let v31 : Int := (z23.2.2.2.length : Int)
let v32 : Int := IntKind.wrap .i64 (v31 - (1 : Int))
if 0 ≤ v32 ∧ v32 < (z23.2.2.2.length : Int) then
let v33 : Int := (z23.2.2.2.getD v32.toNat ((0 : Int), (([] : List (List Int)), ([] : List (List Int))))).1
let v34 : Int := IntKind.wrap .i64 (y25.1 - v33)
let v35 : Int := (z23.2.2.2.length : Int)
let v36 : Int := IntKind.wrap .i64 (v35 - (1 : Int))
if 0 ≤ v36 ∧ v36 < (z23.2.2.2.length : Int) then
let v37 : (List (List Int)) := (z23.2.2.2.getD v36.toNat ((0 : Int), (([] : List (List Int)), ([] : List (List Int))))).2.1
let v38 : Int := (v37.length : Int)
let v39 : Bool := decide (v34 ≤ v38)
bif v39 then
some (.inr ((0 : Int), ([] : List (Int × ((List (List Int)) × (List (List Int))))), z23.2.2.1, (4 : Int)))
else
let v40 : (Int × ((List (List Int)) × (List (List Int)))) := (y25.1, (([] : List (List Int)), ([] : List (List Int))))
Option.bind (lp2 (z23.1, z23.2.1, y25.2.2.2, y25.2.1, y25.2.2.1, (0 : Int), z23.2.2.2, v40)) fun s41 => onSum s41 (fun y42 =>
let v58 : (List (Int × ((List (List Int)) × (List (List Int))))) := ([y42.2.2.2.2.2.2.2] : List (Int × ((List (List Int)) × (List (List Int)))))
if (y42.2.2.2.2.2.2.1.length + v58.length) * 56 ≤ 140737488355328 ∧ y42.2.2.2.2.2.2.1.length + v58.length ≤ 140737488355328 then
let v59 : (List (Int × ((List (List Int)) × (List (List Int))))) := y42.2.2.2.2.2.2.1 ++ v58
self (y42.1, y42.2.1, y42.2.2.1, v59)
else none) (fun o57 => some (.inr o57))
else none
else none
else
let v60 : (Int × ((List (List Int)) × (List (List Int)))) := (y25.1, (([] : List (List Int)), ([] : List (List Int))))
Option.bind (lp2 (z23.1, z23.2.1, y25.2.2.2, y25.2.1, y25.2.2.1, (0 : Int), z23.2.2.2, v60)) fun s61 => onSum s61 (fun y62 =>
let v64 : (List (Int × ((List (List Int)) × (List (List Int))))) := ([y62.2.2.2.2.2.2.2] : List (Int × ((List (List Int)) × (List (List Int)))))
if (y62.2.2.2.2.2.2.1.length + v64.length) * 56 ≤ 140737488355328 ∧ y62.2.2.2.2.2.2.1.length + v64.length ≤ 140737488355328 then
let v65 : (List (Int × ((List (List Int)) × (List (List Int))))) := y62.2.2.2.2.2.2.1 ++ v64
self (y62.1, y62.2.1, y62.2.2.1, v65)
else none) (fun o63 => some (.inr o63))
else
some (.inr ((0 : Int), ([] : List (Int × ((List (List Int)) × (List (List Int))))), z23.2.2.1, (4 : Int)))
else
some (.inr ((0 : Int), ([] : List (Int × ((List (List Int)) × (List (List Int))))), z23.2.2.1, (4 : Int)))
else
some (.inl (z23.1, z23.2.1, z23.2.2.1, z23.2.2.2))
def F15_1 (f22 : Int → Option (ByteArray)) (f30 : (List Int) → Int → Int → Option (Bool)) (f31 : (List Int) → Int → Option (Int × Int × Int × Int)) (f32 : Int → (List Int) → Int → Option ((List Int) × Int)) (self : ((List Int) × Int × Int × Int) → Option (((List Int) × Int × Int × Int) ⊕ (Int × (List (Int × ((List (List Int)) × (List (List Int))))) × Int × Int))) (z3 : (List Int) × Int × Int × Int) : Option (((List Int) × Int × Int × Int) ⊕ (Int × (List (Int × ((List (List Int)) × (List (List Int))))) × Int × Int)) :=
let v4 : Bool := decide (z3.2.2.2 < (2 : Int))
bif v4 then
Option.bind (f22 z3.2.2.2) fun y5 =>
if (⟨#[116, 97, 116, 116, 105, 110, 103, 32, 49, 32]⟩ : ByteArray).size + y5.size ≤ 140737488355328 then
let v6 : ByteArray := (⟨#[116, 97, 116, 116, 105, 110, 103, 32, 49, 32]⟩ : ByteArray) ++ y5
if v6.size + (⟨#[10]⟩ : ByteArray).size ≤ 140737488355328 then
let v7 : ByteArray := v6 ++ (⟨#[10]⟩ : ByteArray)
let v8 : Int := (z3.1.length : Int)
let v9 : Int := (v7.size : Int)
let v10 : Bool := decide (v8 ≥ v9)
bif v10 == true then
let v11 : Int := (v7.size : Int)
if 0 ≤ (0 : Int) ∧ (0 : Int) ≤ v11 ∧ v11 ≤ (z3.1.length : Int) then
let v12 : (List Int) := cut z3.1 (0 : Int) v11
let v13 : ByteArray := bytesStr v12
let v14 : Bool := strEq v13 v7
bif v14 then
let v15 : Int := (v7.size : Int)
let v16 : Int := IntKind.wrap .i64 (z3.2.2.2 + (1 : Int))
self (z3.1, z3.2.2.2, v15, v16)
else
let v17 : Int := IntKind.wrap .i64 (z3.2.2.2 + (1 : Int))
self (z3.1, z3.2.1, z3.2.2.1, v17)
else none
else
let v18 : Int := IntKind.wrap .i64 (z3.2.2.2 + (1 : Int))
self (z3.1, z3.2.1, z3.2.2.1, v18)
else none
else none
else
some (.inl (z3.1, z3.2.1, z3.2.2.1, z3.2.2.2))
def F15_2 (f22 : Int → Option (ByteArray)) (f30 : (List Int) → Int → Int → Option (Bool)) (f31 : (List Int) → Int → Option (Int × Int × Int × Int)) (f32 : Int → (List Int) → Int → Option ((List Int) × Int)) (self : ((List Int) × Int × Int × Int × Int × Int × (List (Int × ((List (List Int)) × (List (List Int))))) × (Int × ((List (List Int)) × (List (List Int))))) → Option (((List Int) × Int × Int × Int × Int × Int × (List (Int × ((List (List Int)) × (List (List Int))))) × (Int × ((List (List Int)) × (List (List Int))))) ⊕ (Int × (List (Int × ((List (List Int)) × (List (List Int))))) × Int × Int))) (z43 : (List Int) × Int × Int × Int × Int × Int × (List (Int × ((List (List Int)) × (List (List Int))))) × (Int × ((List (List Int)) × (List (List Int))))) : Option (((List Int) × Int × Int × Int × Int × Int × (List (Int × ((List (List Int)) × (List (List Int))))) × (Int × ((List (List Int)) × (List (List Int))))) ⊕ (Int × (List (Int × ((List (List Int)) × (List (List Int))))) × Int × Int)) :=
let v44 : Int := IntKind.wrap .i64 (z43.2.2.2.1 + z43.2.2.2.2.1)
let v45 : Bool := decide (z43.2.2.2.2.2.1 < v44)
bif v45 then
Option.bind (f32 z43.2.1 z43.1 z43.2.2.1) fun y46 =>
let v47 : Bool := decide (y46.2 < (0 : Int))
bif v47 then
some (.inr ((0 : Int), ([] : List (Int × ((List (List Int)) × (List (List Int))))), z43.2.2.1, (4 : Int)))
else
let v48 : Bool := decide (z43.2.2.2.2.2.1 < z43.2.2.2.1)
bif v48 then
let v49 : (List (List Int)) := ([y46.1] : List (List Int))
if (z43.2.2.2.2.2.2.2.2.1.length + v49.length) * 24 ≤ 140737488355328 ∧ z43.2.2.2.2.2.2.2.2.1.length + v49.length ≤ 140737488355328 then
let v50 : (List (List Int)) := z43.2.2.2.2.2.2.2.2.1 ++ v49
let v51 : (Int × ((List (List Int)) × (List (List Int)))) := (z43.2.2.2.2.2.2.2.1, (v50, z43.2.2.2.2.2.2.2.2.2))
let v52 : Int := IntKind.wrap .i64 (z43.2.2.2.2.2.1 + (1 : Int))
self (z43.1, z43.2.1, y46.2, z43.2.2.2.1, z43.2.2.2.2.1, v52, z43.2.2.2.2.2.2.1, v51)
else none
else
let v53 : (List (List Int)) := ([y46.1] : List (List Int))
if (z43.2.2.2.2.2.2.2.2.2.length + v53.length) * 24 ≤ 140737488355328 ∧ z43.2.2.2.2.2.2.2.2.2.length + v53.length ≤ 140737488355328 then
let v54 : (List (List Int)) := z43.2.2.2.2.2.2.2.2.2 ++ v53
let v55 : (Int × ((List (List Int)) × (List (List Int)))) := (z43.2.2.2.2.2.2.2.1, (z43.2.2.2.2.2.2.2.2.1, v54))
let v56 : Int := IntKind.wrap .i64 (z43.2.2.2.2.2.1 + (1 : Int))
self (z43.1, z43.2.1, y46.2, z43.2.2.2.1, z43.2.2.2.2.1, v56, z43.2.2.2.2.2.2.1, v55)
else none
else
some (.inl (z43.1, z43.2.1, z43.2.2.1, z43.2.2.2.1, z43.2.2.2.2.1, z43.2.2.2.2.2.1, z43.2.2.2.2.2.2.1, z43.2.2.2.2.2.2.2))
def r15 (f22 : Int → Option (ByteArray)) (f30 : (List Int) → Int → Int → Option (Bool)) (f31 : (List Int) → Int → Option (Int × Int × Int × Int)) (f32 : Int → (List Int) → Int → Option ((List Int) × Int)) (lp0 : ((List Int) × Int × Int × (List (Int × ((List (List Int)) × (List (List Int)))))) → Option (((List Int) × Int × Int × (List (Int × ((List (List Int)) × (List (List Int)))))) ⊕ (Int × (List (Int × ((List (List Int)) × (List (List Int))))) × Int × Int))) (lp1 : ((List Int) × Int × Int × Int) → Option (((List Int) × Int × Int × Int) ⊕ (Int × (List (Int × ((List (List Int)) × (List (List Int))))) × Int × Int))) (lp2 : ((List Int) × Int × Int × Int × Int × Int × (List (Int × ((List (List Int)) × (List (List Int))))) × (Int × ((List (List Int)) × (List (List Int))))) → Option (((List Int) × Int × Int × Int × Int × Int × (List (Int × ((List (List Int)) × (List (List Int))))) × (Int × ((List (List Int)) × (List (List Int))))) ⊕ (Int × (List (Int × ((List (List Int)) × (List (List Int))))) × Int × Int))) (a0 : (List Int)) : Option (Int × (List (Int × ((List (List Int)) × (List (List Int))))) × Int × Int) :=
Option.bind (lp1 (a0, (-1 : Int), (0 : Int), (0 : Int))) fun s1 => onSum s1 (fun y2 =>
let v20 : Bool := decide (y2.2.1 < (0 : Int))
bif v20 then
some ((0 : Int), ([] : List (Int × ((List (List Int)) × (List (List Int))))), (0 : Int), (4 : Int))
else
Option.bind (lp0 (y2.1, y2.2.1, y2.2.2.1, ([] : List (Int × ((List (List Int)) × (List (List Int))))))) fun s21 => onSum s21 (fun y22 =>
Option.bind (f30 y22.1 y22.2.2.1 (46 : Int)) fun y67 =>
let v68 : Bool := !y67
bif v68 == false then
let v69 : Int := IntKind.wrap .i64 (y22.2.2.1 + (1 : Int))
Option.bind (f30 y22.1 v69 (10 : Int)) fun y70 =>
let v71 : Bool := !y70
bif v71 then
some ((0 : Int), ([] : List (Int × ((List (List Int)) × (List (List Int))))), y22.2.2.1, (4 : Int))
else
let v72 : Int := IntKind.wrap .i64 (y22.2.2.1 + (2 : Int))
let v73 : Int := (y22.1.length : Int)
let v74 : Bool := decide (v72 < v73)
bif v74 then
let v75 : Int := IntKind.wrap .i64 (y22.2.2.1 + (2 : Int))
some ((0 : Int), ([] : List (Int × ((List (List Int)) × (List (List Int))))), v75, (4 : Int))
else
some (y22.2.1, y22.2.2.2, (0 : Int), (0 : Int))
else
some ((0 : Int), ([] : List (Int × ((List (List Int)) × (List (List Int))))), y22.2.2.1, (4 : Int))) (fun o66 => some o66)) (fun o19 => some o19)
-- tatting/tattingref24.Same
def F16_0 (f33 : (List (List Int)) → (List (List Int)) → Option (Bool)) (self : ((List (Int × ((List (List Int)) × (List (List Int))))) × (List (Int × ((List (List Int)) × (List (List Int))))) × Int) → Option (((List (Int × ((List (List Int)) × (List (List Int))))) × (List (Int × ((List (List Int)) × (List (List Int))))) × Int) ⊕ (Bool))) (z6 : (List (Int × ((List (List Int)) × (List (List Int))))) × (List (Int × ((List (List Int)) × (List (List Int))))) × Int) : Option (((List (Int × ((List (List Int)) × (List (List Int))))) × (List (Int × ((List (List Int)) × (List (List Int))))) × Int) ⊕ (Bool)) :=
let v7 : Int := (z6.1.length : Int)
let v8 : Bool := decide (z6.2.2 < v7)
bif v8 then
if 0 ≤ z6.2.2 ∧ z6.2.2 < (z6.1.length : Int) then
let v9 : (Int × ((List (List Int)) × (List (List Int)))) := z6.1.getD z6.2.2.toNat ((0 : Int), (([] : List (List Int)), ([] : List (List Int))))
if 0 ≤ z6.2.2 ∧ z6.2.2 < (z6.2.1.length : Int) then
let v10 : (Int × ((List (List Int)) × (List (List Int)))) := z6.2.1.getD z6.2.2.toNat ((0 : Int), (([] : List (List Int)), ([] : List (List Int))))
let v11 : Bool := !decide (v9.1 = v10.1)
bif v11 == false then
if 0 ≤ z6.2.2 ∧ z6.2.2 < (z6.1.length : Int) then
let v12 : (Int × ((List (List Int)) × (List (List Int)))) := z6.1.getD z6.2.2.toNat ((0 : Int), (([] : List (List Int)), ([] : List (List Int))))
if 0 ≤ z6.2.2 ∧ z6.2.2 < (z6.2.1.length : Int) then
let v13 : (Int × ((List (List Int)) × (List (List Int)))) := z6.2.1.getD z6.2.2.toNat ((0 : Int), (([] : List (List Int)), ([] : List (List Int))))
Option.bind (f33 v12.2.1 v13.2.1) fun y14 =>
let v15 : Bool := !y14
bif v15 == false then
if 0 ≤ z6.2.2 ∧ z6.2.2 < (z6.1.length : Int) then
let v16 : (Int × ((List (List Int)) × (List (List Int)))) := z6.1.getD z6.2.2.toNat ((0 : Int), (([] : List (List Int)), ([] : List (List Int))))
if 0 ≤ z6.2.2 ∧ z6.2.2 < (z6.2.1.length : Int) then
let v17 : (Int × ((List (List Int)) × (List (List Int)))) := z6.2.1.getD z6.2.2.toNat ((0 : Int), (([] : List (List Int)), ([] : List (List Int))))
Option.bind (f33 v16.2.2 v17.2.2) fun y18 =>
let v19 : Bool := !y18
bif v19 then
some (.inr false)
else
let v20 : Int := IntKind.wrap .i64 (z6.2.2 + (1 : Int))
self (z6.1, z6.2.1, v20)
else none
else none
else
some (.inr false)
else none
else none
else
some (.inr false)
else none
else none
else
some (.inl (z6.1, z6.2.1, z6.2.2))
def r16 (f33 : (List (List Int)) → (List (List Int)) → Option (Bool)) (lp0 : ((List (Int × ((List (List Int)) × (List (List Int))))) × (List (Int × ((List (List Int)) × (List (List Int))))) × Int) → Option (((List (Int × ((List (List Int)) × (List (List Int))))) × (List (Int × ((List (List Int)) × (List (List Int))))) × Int) ⊕ (Bool))) (a0 : (List (Int × ((List (List Int)) × (List (List Int)))))) (a1 : (List (Int × ((List (List Int)) × (List (List Int)))))) : Option (Bool) :=
let v1 : Int := (a0.length : Int)
let v2 : Int := (a1.length : Int)
let v3 : Bool := !decide (v1 = v2)
bif v3 then
some false
else
Option.bind (lp0 (a0, a1, (0 : Int))) fun s4 => onSum s4 (fun y5 =>
some true) (fun o21 => some o21)
-- tatting/tok.Name
def r17 (a0 : Int) : Option (ByteArray) :=
let v1 : Bool := decide (a0 = (0 : Int))
bif v1 then
some (⟨#[98, 121, 116, 101, 115]⟩ : ByteArray)
else
let v2 : Bool := decide (a0 = (1 : Int))
bif v2 then
some (⟨#[108, 105, 110, 101, 115]⟩ : ByteArray)
else
some (⟨#[]⟩ : ByteArray)
-- tatting/edit.Good
def F18_0 (f34 : (List (List Int)) → Option (Bool)) (self : (Int × (List (Int × ((List (List Int)) × (List (List Int))))) × Int × Int) → Option ((Int × (List (Int × ((List (List Int)) × (List (List Int))))) × Int × Int) ⊕ (Bool))) (z4 : Int × (List (Int × ((List (List Int)) × (List (List Int))))) × Int × Int) : Option ((Int × (List (Int × ((List (List Int)) × (List (List Int))))) × Int × Int) ⊕ (Bool)) :=
let v5 : Bool := decide (z4.2.2.2 < z4.2.2.1)
bif v5 then
if 0 ≤ z4.2.2.2 ∧ z4.2.2.2 < (z4.2.1.length : Int) then
let v6 : (Int × ((List (List Int)) × (List (List Int)))) := z4.2.1.getD z4.2.2.2.toNat ((0 : Int), (([] : List (List Int)), ([] : List (List Int))))
let v7 : Bool := decide (v6.1 ≤ z4.1)
bif v7 == false then
let v8 : Bool := decide (v6.1 > (1048576 : Int))
bif v8 == false then
let v9 : Int := (v6.2.1.length : Int)
let v10 : Int := (v6.2.2.length : Int)
let v11 : Int := IntKind.wrap .i64 (v9 + v10)
let v12 : Bool := decide (v11 = (0 : Int))
bif v12 == false then
Option.bind (f34 v6.2.1) fun y13 =>
let v14 : Bool := !y13
bif v14 == false then
Option.bind (f34 v6.2.2) fun y15 =>
let v16 : Bool := !y15
bif v16 then
some (.inr false)
else
let v17 : Int := (v6.2.1.length : Int)
let v18 : Int := IntKind.wrap .i64 (v6.1 + v17)
let v19 : Int := IntKind.wrap .i64 (z4.2.2.2 + (1 : Int))
self (v18, z4.2.1, z4.2.2.1, v19)
else
some (.inr false)
else
some (.inr false)
else
some (.inr false)
else
some (.inr false)
else none
else
some (.inl (z4.1, z4.2.1, z4.2.2.1, z4.2.2.2))
def r18 (f34 : (List (List Int)) → Option (Bool)) (lp0 : (Int × (List (Int × ((List (List Int)) × (List (List Int))))) × Int × Int) → Option ((Int × (List (Int × ((List (List Int)) × (List (List Int))))) × Int × Int) ⊕ (Bool))) (a0 : (List (Int × ((List (List Int)) × (List (List Int)))))) : Option (Bool) :=
let v1 : Int := (a0.length : Int)
Option.bind (lp0 ((-1 : Int), a0, v1, (0 : Int))) fun s2 => onSum s2 (fun y3 =>
some true) (fun o20 => some o20)
-- tatting/coded.fits
def F19_0 (f35 : Int → (List Int) → Option (Bool)) (self : (Int × (List (List Int)) × Int × Int) → Option ((Int × (List (List Int)) × Int × Int) ⊕ (Bool))) (z6 : Int × (List (List Int)) × Int × Int) : Option ((Int × (List (List Int)) × Int × Int) ⊕ (Bool)) :=
let v7 : Bool := decide (z6.2.2.2 < z6.2.2.1)
bif v7 then
if 0 ≤ z6.2.2.2 ∧ z6.2.2.2 < (z6.2.1.length : Int) then
let v8 : (List Int) := z6.2.1.getD z6.2.2.2.toNat ([] : List Int)
Option.bind (f35 z6.1 v8) fun y9 =>
let v10 : Bool := !y9
bif v10 == false then
let v11 : Int := (v8.length : Int)
let v12 : Bool := decide (v11 > (1048576 : Int))
bif v12 then
some (.inr false)
else
let v13 : Int := IntKind.wrap .i64 (z6.2.2.2 + (1 : Int))
self (z6.1, z6.2.1, z6.2.2.1, v13)
else
some (.inr false)
else none
else
some (.inl (z6.1, z6.2.1, z6.2.2.1, z6.2.2.2))
def r19 (f35 : Int → (List Int) → Option (Bool)) (lp0 : (Int × (List (List Int)) × Int × Int) → Option ((Int × (List (List Int)) × Int × Int) ⊕ (Bool))) (a0 : Int) (a1 : (List (List Int))) : Option (Bool) :=
let v1 : Int := (a1.length : Int)
let v2 : Bool := decide (v1 > (1048576 : Int))
bif v2 then
some false
else
let v3 : Int := (a1.length : Int)
Option.bind (lp0 (a0, a1, v3, (0 : Int))) fun s4 => onSum s4 (fun y5 =>
some true) (fun o14 => some o14)
-- tatting/coded.number
def r20 (f36 : Int → Int → (List Int) → Option ((List Int))) (a0 : Int) (a1 : (List Int)) : Option ((List Int)) :=
Option.bind (f36 a0 (10 : Int) a1) fun y1 =>
some y1
-- tatting/coded.tokens
def F21_0 (f20 : Int → (List Int) → Option ((List Int))) (self : ((List (List Int)) × Int × Int × (List Int)) → Option (((List (List Int)) × Int × Int × (List Int)) ⊕ ((List Int)))) (z4 : (List (List Int)) × Int × Int × (List Int)) : Option (((List (List Int)) × Int × Int × (List Int)) ⊕ ((List Int))) :=
let v5 : Bool := decide (z4.2.2.1 < z4.2.1)
bif v5 then
if 0 ≤ z4.2.2.1 ∧ z4.2.2.1 < (z4.1.length : Int) then
let v6 : (List Int) := z4.1.getD z4.2.2.1.toNat ([] : List Int)
let v7 : Int := (v6.length : Int)
Option.bind (f20 v7 z4.2.2.2) fun y8 =>
let v9 : (List Int) := ([(58 : Int)] : List Int)
if (y8.length + v9.length) * 1 ≤ 140737488355328 ∧ y8.length + v9.length ≤ 140737488355328 then
let v10 : (List Int) := y8 ++ v9
if (v10.length + v6.length) * 1 ≤ 140737488355328 ∧ v10.length + v6.length ≤ 140737488355328 then
let v11 : (List Int) := v10 ++ v6
let v12 : (List Int) := ([(10 : Int)] : List Int)
if (v11.length + v12.length) * 1 ≤ 140737488355328 ∧ v11.length + v12.length ≤ 140737488355328 then
let v13 : (List Int) := v11 ++ v12
let v14 : Int := IntKind.wrap .i64 (z4.2.2.1 + (1 : Int))
self (z4.1, z4.2.1, v14, v13)
else none
else none
else none
else none
else
some (.inl (z4.1, z4.2.1, z4.2.2.1, z4.2.2.2))
def r21 (f20 : Int → (List Int) → Option ((List Int))) (lp0 : ((List (List Int)) × Int × Int × (List Int)) → Option (((List (List Int)) × Int × Int × (List Int)) ⊕ ((List Int)))) (a0 : (List (List Int))) (a1 : (List Int)) : Option ((List Int)) :=
let v1 : Int := (a0.length : Int)
Option.bind (lp0 (a0, v1, (0 : Int), a1)) fun s2 => onSum s2 (fun y3 =>
some y3.2.2.2) (fun o15 => some o15)
-- tatting/tattingref1.Name
def r22 (a0 : Int) : Option (ByteArray) :=
let v1 : Bool := decide (a0 = (0 : Int))
bif v1 then
some (⟨#[98, 121, 116, 101, 115]⟩ : ByteArray)
else
let v2 : Bool := decide (a0 = (1 : Int))
bif v2 then
some (⟨#[108, 105, 110, 101, 115]⟩ : ByteArray)
else
some (⟨#[]⟩ : ByteArray)
-- tatting/tattingref1.Is
def F25_0 (self : ((List Int) × Int) → Option (((List Int) × Int) ⊕ (Bool))) (z9 : (List Int) × Int) : Option (((List Int) × Int) ⊕ (Bool)) :=
let v10 : Int := IntKind.wrap .i64 (z9.2 + (1 : Int))
let v11 : Int := (z9.1.length : Int)
let v12 : Bool := decide (v10 < v11)
bif v12 then
if 0 ≤ z9.2 ∧ z9.2 < (z9.1.length : Int) then
let v13 : Int := z9.1.getD z9.2.toNat (0 : Int)
let v14 : Bool := decide (v13 = (10 : Int))
bif v14 then
some (.inr false)
else
let v15 : Int := IntKind.wrap .i64 (z9.2 + (1 : Int))
self (z9.1, v15)
else none
else
some (.inl (z9.1, z9.2))
def r25 (lp0 : ((List Int) × Int) → Option (((List Int) × Int) ⊕ (Bool))) (a0 : Int) (a1 : (List Int)) : Option (Bool) :=
let v1 : Bool := decide (a0 = (0 : Int))
bif v1 then
let v2 : Int := (a1.length : Int)
let v3 : Bool := decide (v2 = (1 : Int))
some v3
else
let v4 : Bool := !decide (a0 = (1 : Int))
bif v4 == false then
let v5 : Int := (a1.length : Int)
let v6 : Bool := decide (v5 = (0 : Int))
bif v6 then
some false
else
Option.bind (lp0 (a1, (0 : Int))) fun s7 => onSum s7 (fun y8 =>
some true) (fun o16 => some o16)
else
some false
-- (*tatting/coded.reader).first
def F26_0 (f17 : Int → Option (ByteArray)) (f29 : ByteArray → ((List Int) × (Int × Int)) → Option (Bool × ((List Int) × (Int × Int)))) (self : ((List Int) × Int × Int × ((List Int) × (Int × Int))) → Option (((List Int) × Int × Int × ((List Int) × (Int × Int))) ⊕ (Bool × ((List Int) × (Int × Int))))) (z5 : (List Int) × Int × Int × ((List Int) × (Int × Int))) : Option (((List Int) × Int × Int × ((List Int) × (Int × Int))) ⊕ (Bool × ((List Int) × (Int × Int)))) :=
let v6 : Bool := decide (z5.2.2.1 < z5.2.1)
bif v6 then
if 0 ≤ z5.2.2.1 ∧ z5.2.2.1 < (z5.1.length : Int) then
let v7 : Int := z5.1.getD z5.2.2.1.toNat (0 : Int)
Option.bind (f17 v7) fun y8 =>
if (⟨#[116, 97, 116, 116, 105, 110, 103, 32, 49, 32]⟩ : ByteArray).size + y8.size ≤ 140737488355328 then
let v9 : ByteArray := (⟨#[116, 97, 116, 116, 105, 110, 103, 32, 49, 32]⟩ : ByteArray) ++ y8
if v9.size + (⟨#[10]⟩ : ByteArray).size ≤ 140737488355328 then
let v10 : ByteArray := v9 ++ (⟨#[10]⟩ : ByteArray)
Option.bind (f29 v10 z5.2.2.2) fun y11 =>
bif y11.1 then
let v12 : ((List Int) × (Int × Int)) := (y11.2.1, (y11.2.2.1, v7))
some (.inr (true, v12))
else
let v13 : Int := IntKind.wrap .i64 (z5.2.2.1 + (1 : Int))
self (z5.1, z5.2.1, v13, y11.2)
else none
else none
else none
else
some (.inl (z5.1, z5.2.1, z5.2.2.1, z5.2.2.2))
def r26 (f17 : Int → Option (ByteArray)) (f29 : ByteArray → ((List Int) × (Int × Int)) → Option (Bool × ((List Int) × (Int × Int)))) (lp0 : ((List Int) × Int × Int × ((List Int) × (Int × Int))) → Option (((List Int) × Int × Int × ((List Int) × (Int × Int))) ⊕ (Bool × ((List Int) × (Int × Int))))) (a0 : ((List Int) × (Int × Int))) : Option (Bool × ((List Int) × (Int × Int))) :=
let v1 : (List Int) := ([(0 : Int), (1 : Int)] : List Int)
let v2 : Int := (v1.length : Int)
Option.bind (lp0 (v1, v2, (0 : Int), a0)) fun s3 => onSum s3 (fun y4 =>
some (false, y4.2.2.2)) (fun o14 => some o14)
-- (*tatting/coded.reader).line
def r27 (f29 : ByteArray → ((List Int) × (Int × Int)) → Option (Bool × ((List Int) × (Int × Int)))) (f37 : ((List Int) × (Int × Int)) → Option (Int × Bool × ((List Int) × (Int × Int)))) (a0 : ((List Int) × (Int × Int))) : Option (Int × Int × Int × Bool × ((List Int) × (Int × Int))) :=
Option.bind (f29 (⟨#[64]⟩ : ByteArray) a0) fun y1 =>
let v2 : Bool := !y1.1
bif v2 then
some ((0 : Int), (0 : Int), (0 : Int), false, y1.2)
else
Option.bind (f37 y1.2) fun y3 =>
bif y3.2.1 == true then
Option.bind (f29 (⟨#[32]⟩ : ByteArray) y3.2.2) fun y4 =>
Option.bind (f37 y4.2) fun y5 =>
bif y4.1 == true then
bif y5.2.1 == true then
Option.bind (f29 (⟨#[32]⟩ : ByteArray) y5.2.2) fun y6 =>
Option.bind (f37 y6.2) fun y7 =>
bif y6.1 == true then
bif y7.2.1 == true then
Option.bind (f29 (⟨#[10]⟩ : ByteArray) y7.2.2) fun y8 =>
some (y3.1, y5.1, y7.1, y8.1, y8.2)
else
some (y3.1, y5.1, y7.1, false, y7.2.2)
else
some (y3.1, y5.1, y7.1, false, y7.2.2)
else
Option.bind (f37 y5.2.2) fun y9 =>
some (y3.1, y5.1, y9.1, false, y9.2.2)
else
Option.bind (f37 y5.2.2) fun y10 =>
some (y3.1, y5.1, y10.1, false, y10.2.2)
else
Option.bind (f37 y3.2.2) fun y11 =>
Option.bind (f37 y11.2.2) fun y12 =>
some (y3.1, y11.1, y12.1, false, y12.2.2)
-- (*tatting/coded.reader).tokens
def F28_0 (f38 : ((List Int) × (Int × Int)) → Option ((List Int) × Bool × ((List Int) × (Int × Int)))) (self : (Int × Int × ((List Int) × (Int × Int)) × (List (List Int))) → Option ((Int × Int × ((List Int) × (Int × Int)) × (List (List Int))) ⊕ ((List (List Int)) × Int × Bool × ((List Int) × (Int × Int))))) (z3 : Int × Int × ((List Int) × (Int × Int)) × (List (List Int))) : Option ((Int × Int × ((List Int) × (Int × Int)) × (List (List Int))) ⊕ ((List (List Int)) × Int × Bool × ((List Int) × (Int × Int)))) :=
let v4 : Bool := decide (z3.2.1 < z3.1)
bif v4 then
Option.bind (f38 z3.2.2.1) fun y5 =>
let v6 : Bool := !y5.2.1
bif v6 then
some (.inr (([] : List (List Int)), z3.2.2.1.2.1, false, y5.2.2))
else
let v7 : (List (List Int)) := ([y5.1] : List (List Int))
if (z3.2.2.2.length + v7.length) * 24 ≤ 140737488355328 ∧ z3.2.2.2.length + v7.length ≤ 140737488355328 then
let v8 : (List (List Int)) := z3.2.2.2 ++ v7
let v9 : Int := IntKind.wrap .i64 (z3.2.1 + (1 : Int))
self (z3.1, v9, y5.2.2, v8)
else none
else
some (.inl (z3.1, z3.2.1, z3.2.2.1, z3.2.2.2))
def r28 (f38 : ((List Int) × (Int × Int)) → Option ((List Int) × Bool × ((List Int) × (Int × Int)))) (lp0 : (Int × Int × ((List Int) × (Int × Int)) × (List (List Int))) → Option ((Int × Int × ((List Int) × (Int × Int)) × (List (List Int))) ⊕ ((List (List Int)) × Int × Bool × ((List Int) × (Int × Int))))) (a0 : Int) (a1 : ((List Int) × (Int × Int))) : Option ((List (List Int)) × Int × Bool × ((List Int) × (Int × Int))) :=
Option.bind (lp0 (a0, (0 : Int), a1, ([] : List (List Int)))) fun s1 => onSum s1 (fun y2 =>
some (y2.2.2.2, (0 : Int), true, y2.2.2.1)) (fun o10 => some o10)
-- (*tatting/coded.reader).text
def r29 (f39 : (List Int) → (List Int) → Option (Bool)) (a0 : ByteArray) (a1 : ((List Int) × (Int × Int))) : Option (Bool × ((List Int) × (Int × Int))) :=
if 0 ≤ a1.2.1 ∧ a1.2.1 ≤ (a1.1.length : Int) ∧ (a1.1.length : Int) ≤ (a1.1.length : Int) then
let v1 : (List Int) := cut a1.1 a1.2.1 (a1.1.length : Int)
if a0.size ≤ 140737488355328 then
let v2 : (List Int) := strBytes a0
Option.bind (f39 v1 v2) fun y3 =>
let v4 : Bool := !y3
bif v4 then
some (false, a1)
else
let v5 : Int := (a0.size : Int)
let v6 : Int := IntKind.wrap .i64 (a1.2.1 + v5)
let v7 : ((List Int) × (Int × Int)) := (a1.1, (v6, a1.2.2))
some (true, v7)
else none
else none
-- tatting/tattingref24.sign
def r30 (a0 : (List Int)) (a1 : Int) (a2 : Int) : Option (Bool) :=
let v1 : Bool := decide (a1 ≥ (0 : Int))
bif v1 == true then
let v2 : Int := (a0.length : Int)
let v3 : Bool := decide (a1 < v2)
bif v3 == true then
if 0 ≤ a1 ∧ a1 < (a0.length : Int) then
let v4 : Int := a0.getD a1.toNat (0 : Int)
let v5 : Bool := decide (v4 = a2)
some v5
else none
else
some false
else
some false
-- tatting/tattingref24.line
def r31 (f30 : (List Int) → Int → Int → Option (Bool)) (f40 : (List Int) → Int → Int → Option (Int × Int)) (a0 : (List Int)) (a1 : Int) : Option (Int × Int × Int × Int) :=
let v1 : Int := IntKind.wrap .i64 (a1 + (1 : Int))
Option.bind (f40 a0 v1 (1048576 : Int)) fun y2 =>
Option.bind (f30 a0 y2.2 (32 : Int)) fun y3 =>
let v4 : Bool := !y3
bif v4 then
some ((0 : Int), (0 : Int), (0 : Int), (-1 : Int))
else
let v5 : Int := IntKind.wrap .i64 (y2.2 + (1 : Int))
Option.bind (f40 a0 v5 (1048576 : Int)) fun y6 =>
Option.bind (f30 a0 y6.2 (32 : Int)) fun y7 =>
let v8 : Bool := !y7
bif v8 then
some ((0 : Int), (0 : Int), (0 : Int), (-1 : Int))
else
let v9 : Int := IntKind.wrap .i64 (y6.2 + (1 : Int))
Option.bind (f40 a0 v9 (1048576 : Int)) fun y10 =>
Option.bind (f30 a0 y10.2 (10 : Int)) fun y11 =>
let v12 : Bool := !y11
bif v12 then
some ((0 : Int), (0 : Int), (0 : Int), (-1 : Int))
else
let v13 : Int := IntKind.wrap .i64 (y10.2 + (1 : Int))
some (y2.1, y6.1, y10.1, v13)
-- tatting/tattingref24.token
def r32 (f25 : Int → (List Int) → Option (Bool)) (f30 : (List Int) → Int → Int → Option (Bool)) (f40 : (List Int) → Int → Int → Option (Int × Int)) (a0 : Int) (a1 : (List Int)) (a2 : Int) : Option ((List Int) × Int) :=
Option.bind (f40 a1 a2 (1048576 : Int)) fun y1 =>
Option.bind (f30 a1 y1.2 (58 : Int)) fun y2 =>
let v3 : Bool := !y2
bif v3 == false then
let v4 : Int := (a1.length : Int)
let v5 : Int := IntKind.wrap .i64 (v4 - y1.2)
let v6 : Int := IntKind.wrap .i64 (v5 - (1 : Int))
let v7 : Bool := decide (v6 < y1.1)
bif v7 then
some (([] : List Int), (-1 : Int))
else
let v8 : Int := IntKind.wrap .i64 (y1.2 + (1 : Int))
let v9 : Int := IntKind.wrap .i64 (v8 + y1.1)
Option.bind (f30 a1 v9 (10 : Int)) fun y10 =>
let v11 : Bool := !y10
bif v11 == false then
let v12 : Int := IntKind.wrap .i64 (y1.2 + (1 : Int))
if 0 ≤ v12 ∧ v12 ≤ v9 ∧ v9 ≤ (a1.length : Int) then
let v13 : (List Int) := cut a1 v12 v9
Option.bind (f25 a0 v13) fun y14 =>
let v15 : Bool := !y14
bif v15 then
some (([] : List Int), (-1 : Int))
else
let v16 : Int := IntKind.wrap .i64 (y1.2 + (1 : Int))
if 0 ≤ v16 ∧ v16 ≤ v9 ∧ v9 ≤ (a1.length : Int) then
let v17 : (List Int) := cut a1 v16 v9
let v18 : Int := IntKind.wrap .i64 (v9 + (1 : Int))
some (v17, v18)
else none
else none
else
some (([] : List Int), (-1 : Int))
else
some (([] : List Int), (-1 : Int))
-- tatting/tattingref1.SameTokens
def F33_0 (self : ((List (List Int)) × (List (List Int)) × Int) → Option (((List (List Int)) × (List (List Int)) × Int) ⊕ (Bool))) (z6 : (List (List Int)) × (List (List Int)) × Int) : Option (((List (List Int)) × (List (List Int)) × Int) ⊕ (Bool)) :=
let v7 : Int := (z6.1.length : Int)
let v8 : Bool := decide (z6.2.2 < v7)
bif v8 then
if 0 ≤ z6.2.2 ∧ z6.2.2 < (z6.1.length : Int) then
let v9 : (List Int) := z6.1.getD z6.2.2.toNat ([] : List Int)
let v10 : ByteArray := bytesStr v9
if 0 ≤ z6.2.2 ∧ z6.2.2 < (z6.2.1.length : Int) then
let v11 : (List Int) := z6.2.1.getD z6.2.2.toNat ([] : List Int)
let v12 : ByteArray := bytesStr v11
let v13 : Bool := !strEq v10 v12
bif v13 then
some (.inr false)
else
let v14 : Int := IntKind.wrap .i64 (z6.2.2 + (1 : Int))
self (z6.1, z6.2.1, v14)
else none
else none
else
some (.inl (z6.1, z6.2.1, z6.2.2))
def r33 (lp0 : ((List (List Int)) × (List (List Int)) × Int) → Option (((List (List Int)) × (List (List Int)) × Int) ⊕ (Bool))) (a0 : (List (List Int))) (a1 : (List (List Int))) : Option (Bool) :=
let v1 : Int := (a0.length : Int)
let v2 : Int := (a1.length : Int)
let v3 : Bool := !decide (v1 = v2)
bif v3 then
some false
else
Option.bind (lp0 (a0, a1, (0 : Int))) fun s4 => onSum s4 (fun y5 =>
some true) (fun o15 => some o15)
-- tatting/edit.all
def F34_0 (self : ((List (List Int)) × Int × Int) → Option (((List (List Int)) × Int × Int) ⊕ (Bool))) (z4 : (List (List Int)) × Int × Int) : Option (((List (List Int)) × Int × Int) ⊕ (Bool)) :=
let v5 : Bool := decide (z4.2.2 < z4.2.1)
bif v5 then
if 0 ≤ z4.2.2 ∧ z4.2.2 < (z4.1.length : Int) then
let v6 : (List Int) := z4.1.getD z4.2.2.toNat ([] : List Int)
let v7 : Int := (v6.length : Int)
let v8 : Bool := decide (v7 = (0 : Int))
bif v8 then
some (.inr false)
else
let v9 : Int := IntKind.wrap .i64 (z4.2.2 + (1 : Int))
self (z4.1, z4.2.1, v9)
else none
else
some (.inl (z4.1, z4.2.1, z4.2.2))
def r34 (lp0 : ((List (List Int)) × Int × Int) → Option (((List (List Int)) × Int × Int) ⊕ (Bool))) (a0 : (List (List Int))) : Option (Bool) :=
let v1 : Int := (a0.length : Int)
Option.bind (lp0 (a0, v1, (0 : Int))) fun s2 => onSum s2 (fun y3 =>
some true) (fun o10 => some o10)
-- tatting/tok.Is
def r35 (f41 : (List Int) → Int → Option (Int)) (a0 : Int) (a1 : (List Int)) : Option (Bool) :=
let v1 : Bool := decide (a0 = (0 : Int))
bif v1 then
let v2 : Int := (a1.length : Int)
let v3 : Bool := decide (v2 = (1 : Int))
some v3
else
let v4 : Bool := decide (a0 = (1 : Int))
bif v4 then
let v5 : Int := (a1.length : Int)
let v6 : Bool := decide (v5 > (0 : Int))
bif v6 == true then
let v7 : Int := (a1.length : Int)
let v8 : Int := IntKind.wrap .i64 (v7 - (1 : Int))
if 0 ≤ (0 : Int) ∧ (0 : Int) ≤ v8 ∧ v8 ≤ (a1.length : Int) then
let v9 : (List Int) := cut a1 (0 : Int) v8
Option.bind (f41 v9 (10 : Int)) fun y10 =>
let v11 : Bool := decide (y10 < (0 : Int))
some v11
else none
else
some false
else
some false
-- strconv.AppendInt
def r36 (f42 : Int → Int → (List Int) → Option ((List Int))) (a0 : Int) (a1 : Int) (a2 : (List Int)) : Option ((List Int)) :=
Option.bind (f42 a0 a1 a2) fun y1 =>
some y1
-- (*tatting/coded.reader).number
def F37_0 (self : (Int × Int × ((List Int) × (Int × Int))) → Option ((Int × Int × ((List Int) × (Int × Int))) ⊕ (Int × Bool × ((List Int) × (Int × Int))))) (z3 : Int × Int × ((List Int) × (Int × Int))) : Option ((Int × Int × ((List Int) × (Int × Int))) ⊕ (Int × Bool × ((List Int) × (Int × Int)))) :=
let v4 : Int := (z3.2.2.1.length : Int)
let v5 : Bool := decide (z3.2.2.2.1 < v4)
bif v5 == true then
if 0 ≤ z3.2.2.2.1 ∧ z3.2.2.2.1 < (z3.2.2.1.length : Int) then
let v6 : Int := z3.2.2.1.getD z3.2.2.2.1.toNat (0 : Int)
let v7 : Bool := decide (v6 ≥ (48 : Int))
bif v7 == true then
if 0 ≤ z3.2.2.2.1 ∧ z3.2.2.2.1 < (z3.2.2.1.length : Int) then
let v8 : Int := z3.2.2.1.getD z3.2.2.2.1.toNat (0 : Int)
let v9 : Bool := decide (v8 ≤ (57 : Int))
bif v9 then
let v10 : Int := IntKind.wrap .i64 ((10 : Int) * z3.1)
if 0 ≤ z3.2.2.2.1 ∧ z3.2.2.2.1 < (z3.2.2.1.length : Int) then
let v11 : Int := z3.2.2.1.getD z3.2.2.2.1.toNat (0 : Int)
let v12 : Int := IntKind.wrap .u8 (v11 - (48 : Int))
let v13 : Int := IntKind.wrap .i64 v12
let v14 : Int := IntKind.wrap .i64 (v10 + v13)
let v15 : Int := IntKind.wrap .i64 (z3.2.2.2.1 + (1 : Int))
let v16 : ((List Int) × (Int × Int)) := (z3.2.2.1, (v15, z3.2.2.2.2))
let v17 : Bool := decide (v14 > (1048576 : Int))
bif v17 == false then
let v18 : Int := IntKind.wrap .i64 (v16.2.1 - z3.2.1)
let v19 : Bool := decide (v18 > (1 : Int))
bif v19 == true then
if 0 ≤ z3.2.1 ∧ z3.2.1 < (v16.1.length : Int) then
let v20 : Int := v16.1.getD z3.2.1.toNat (0 : Int)
let v21 : Bool := decide (v20 = (48 : Int))
bif v21 then
some (.inr ((0 : Int), false, v16))
else
self (v14, z3.2.1, v16)
else none
else
self (v14, z3.2.1, v16)
else
some (.inr ((0 : Int), false, v16))
else none
else
some (.inl (z3.1, z3.2.1, z3.2.2))
else none
else
some (.inl (z3.1, z3.2.1, z3.2.2))
else none
else
some (.inl (z3.1, z3.2.1, z3.2.2))
def r37 (lp0 : (Int × Int × ((List Int) × (Int × Int))) → Option ((Int × Int × ((List Int) × (Int × Int))) ⊕ (Int × Bool × ((List Int) × (Int × Int))))) (a0 : ((List Int) × (Int × Int))) : Option (Int × Bool × ((List Int) × (Int × Int))) :=
Option.bind (lp0 ((0 : Int), a0.2.1, a0)) fun s1 => onSum s1 (fun y2 =>
let v23 : Bool := decide (y2.2.2.2.1 > y2.2.1)
some (y2.1, v23, y2.2.2)) (fun o22 => some o22)
-- (*tatting/coded.reader).token
def r38 (f29 : ByteArray → ((List Int) × (Int × Int)) → Option (Bool × ((List Int) × (Int × Int)))) (f35 : Int → (List Int) → Option (Bool)) (f37 : ((List Int) × (Int × Int)) → Option (Int × Bool × ((List Int) × (Int × Int)))) (f43 : (List Int) → Option ((List Int))) (a0 : ((List Int) × (Int × Int))) : Option ((List Int) × Bool × ((List Int) × (Int × Int))) :=
Option.bind (f37 a0) fun y1 =>
let v2 : Bool := !y1.2.1
bif v2 == false then
Option.bind (f29 (⟨#[58]⟩ : ByteArray) y1.2.2) fun y3 =>
let v4 : Bool := !y3.1
bif v4 == false then
let v5 : Int := (y3.2.1.length : Int)
let v6 : Int := IntKind.wrap .i64 (v5 - y3.2.2.1)
let v7 : Bool := decide (y1.1 > v6)
bif v7 then
some (([] : List Int), false, y3.2)
else
let v8 : Int := IntKind.wrap .i64 (y3.2.2.1 + y1.1)
if 0 ≤ y3.2.2.1 ∧ y3.2.2.1 ≤ v8 ∧ v8 ≤ (y3.2.1.length : Int) then
let v9 : (List Int) := cut y3.2.1 y3.2.2.1 v8
Option.bind (f43 v9) fun y10 =>
let v11 : Int := IntKind.wrap .i64 (y3.2.2.1 + y1.1)
let v12 : ((List Int) × (Int × Int)) := (y3.2.1, (v11, y3.2.2.2))
Option.bind (f29 (⟨#[10]⟩ : ByteArray) v12) fun y13 =>
bif y13.1 == true then
Option.bind (f35 y13.2.2.2 y10) fun y14 =>
some (y10, y14, y13.2)
else
some (y10, false, y13.2)
else none
else
some (([] : List Int), false, y3.2)
else
some (([] : List Int), false, y1.2.2)
-- bytes.HasPrefix
def r39 (f44 : (List Int) → (List Int) → Option (Bool)) (a0 : (List Int)) (a1 : (List Int)) : Option (Bool) :=
let v1 : Int := (a0.length : Int)
let v2 : Int := (a1.length : Int)
let v3 : Bool := decide (v1 ≥ v2)
bif v3 == true then
let v4 : Int := (a1.length : Int)
if 0 ≤ (0 : Int) ∧ (0 : Int) ≤ v4 ∧ v4 ≤ (a0.length : Int) then
let v5 : (List Int) := cut a0 (0 : Int) v4
Option.bind (f44 v5 a1) fun y6 =>
some y6
else none
else
some false
-- tatting/tattingref24.Number
def F40_0 (self : ((List Int) × Int × Int × Int × Int) → Option (((List Int) × Int × Int × Int × Int) ⊕ (Int × Int))) (z3 : (List Int) × Int × Int × Int × Int) : Option (((List Int) × Int × Int × Int × Int) ⊕ (Int × Int)) :=
let v4 : Int := (z3.1.length : Int)
let v5 : Bool := decide (z3.2.2.2.2 < v4)
bif v5 == true then
if 0 ≤ z3.2.2.2.2 ∧ z3.2.2.2.2 < (z3.1.length : Int) then
let v6 : Int := z3.1.getD z3.2.2.2.2.toNat (0 : Int)
let v7 : Bool := decide (v6 ≥ (48 : Int))
bif v7 == true then
if 0 ≤ z3.2.2.2.2 ∧ z3.2.2.2.2 < (z3.1.length : Int) then
let v8 : Int := z3.1.getD z3.2.2.2.2.toNat (0 : Int)
let v9 : Bool := decide (v8 ≤ (57 : Int))
bif v9 then
let v10 : Bool := decide (z3.2.2.2.2 > z3.2.1)
bif v10 == true then
let v11 : Bool := decide (z3.2.2.2.1 = (0 : Int))
bif v11 == false then
let v12 : Bool := decide (z3.2.2.2.1 > z3.2.2.1)
bif v12 then
some (.inr ((0 : Int), (-1 : Int)))
else
let v13 : Int := IntKind.wrap .i64 (z3.2.2.2.1 * (10 : Int))
if 0 ≤ z3.2.2.2.2 ∧ z3.2.2.2.2 < (z3.1.length : Int) then
let v14 : Int := z3.1.getD z3.2.2.2.2.toNat (0 : Int)
let v15 : Int := IntKind.wrap .u8 (v14 - (48 : Int))
let v16 : Int := IntKind.wrap .i64 v15
let v17 : Int := IntKind.wrap .i64 (v13 + v16)
let v18 : Int := IntKind.wrap .i64 (z3.2.2.2.2 + (1 : Int))
self (z3.1, z3.2.1, z3.2.2.1, v17, v18)
else none
else
some (.inr ((0 : Int), (-1 : Int)))
else
let v19 : Bool := decide (z3.2.2.2.1 > z3.2.2.1)
bif v19 then
some (.inr ((0 : Int), (-1 : Int)))
else
let v20 : Int := IntKind.wrap .i64 (z3.2.2.2.1 * (10 : Int))
if 0 ≤ z3.2.2.2.2 ∧ z3.2.2.2.2 < (z3.1.length : Int) then
let v21 : Int := z3.1.getD z3.2.2.2.2.toNat (0 : Int)
let v22 : Int := IntKind.wrap .u8 (v21 - (48 : Int))
let v23 : Int := IntKind.wrap .i64 v22
let v24 : Int := IntKind.wrap .i64 (v20 + v23)
let v25 : Int := IntKind.wrap .i64 (z3.2.2.2.2 + (1 : Int))
self (z3.1, z3.2.1, z3.2.2.1, v24, v25)
else none
else
some (.inl (z3.1, z3.2.1, z3.2.2.1, z3.2.2.2.1, z3.2.2.2.2))
else none
else
some (.inl (z3.1, z3.2.1, z3.2.2.1, z3.2.2.2.1, z3.2.2.2.2))
else none
else
some (.inl (z3.1, z3.2.1, z3.2.2.1, z3.2.2.2.1, z3.2.2.2.2))
def r40 (lp0 : ((List Int) × Int × Int × Int × Int) → Option (((List Int) × Int × Int × Int × Int) ⊕ (Int × Int))) (a0 : (List Int)) (a1 : Int) (a2 : Int) : Option (Int × Int) :=
Option.bind (lp0 (a0, a1, a2, (0 : Int), a1)) fun s1 => onSum s1 (fun y2 =>
let v27 : Bool := decide (y2.2.2.2.2 = y2.2.1)
bif v27 == false then
let v28 : Bool := decide (y2.2.2.2.1 > y2.2.2.1)
bif v28 then
some ((0 : Int), (-1 : Int))
else
some (y2.2.2.2.1, y2.2.2.2.2)
else
some ((0 : Int), (-1 : Int))) (fun o26 => some o26)
-- bytes.IndexByte
def r41 (f45 : (List Int) → Int → Option (Int)) (a0 : (List Int)) (a1 : Int) : Option (Int) :=
Option.bind (f45 a0 a1) fun y1 =>
some y1
-- internal/strconv.AppendInt
def r42 (f46 : Int → Int → (List Int) → Option ((List Int))) (a0 : Int) (a1 : Int) (a2 : (List Int)) : Option ((List Int)) :=
let v1 : Int := IntKind.wrap .u64 a0
let v2 : Bool := decide (a0 < (0 : Int))
bif v2 then
let v3 : (List Int) := ([(45 : Int)] : List Int)
if (a2.length + v3.length) * 1 ≤ 140737488355328 ∧ a2.length + v3.length ≤ 140737488355328 then
let v4 : (List Int) := a2 ++ v3
let v5 : Int := IntKind.wrap .u64 (0 - v1)
Option.bind (f46 v5 a1 v4) fun y6 =>
some y6
else none
else
Option.bind (f46 v1 a1 a2) fun y7 =>
some y7
-- bytes.Equal
def r44 (a0 : (List Int)) (a1 : (List Int)) : Option (Bool) :=
let v1 : ByteArray := bytesStr a0
let v2 : ByteArray := bytesStr a1
let v3 : Bool := strEq v1 v2
some v3
def g5 (call : CallFn E) : (List Int) → Option (Bool) := fun x0 => call 5 x0
def g9 (call : CallFn E) : Int → (List (Int × ((List (List Int)) × (List (List Int))))) → Option ((List Int) × Int) := fun x0 x1 => call 9 (x0, x1)
def g11 (call : CallFn E) : Unit → Option (Bool) := fun _ => call 11 ()
def g14 (call : CallFn E) : (List Int) → Option (Int × (List (Int × ((List (List Int)) × (List (List Int))))) × Int × Int) := fun x0 => call 14 x0
def g15 (call : CallFn E) : (List Int) → Option (Int × (List (Int × ((List (List Int)) × (List (List Int))))) × Int × Int) := fun x0 => call 15 x0
def g16 (call : CallFn E) : (List (Int × ((List (List Int)) × (List (List Int))))) → (List (Int × ((List (List Int)) × (List (List Int))))) → Option (Bool) := fun x0 x1 => call 16 (x0, x1)
def g17 (call : CallFn E) : Int → Option (ByteArray) := fun x0 => call 17 x0
def g18 (call : CallFn E) : (List (Int × ((List (List Int)) × (List (List Int))))) → Option (Bool) := fun x0 => call 18 x0
def g19 (call : CallFn E) : Int → (List (List Int)) → Option (Bool) := fun x0 x1 => call 19 (x0, x1)
def g20 (call : CallFn E) : Int → (List Int) → Option ((List Int)) := fun x0 x1 => call 20 (x0, x1)
def g21 (call : CallFn E) : (List (List Int)) → (List Int) → Option ((List Int)) := fun x0 x1 => call 21 (x0, x1)
def g22 (call : CallFn E) : Int → Option (ByteArray) := fun x0 => call 22 x0
def g25 (call : CallFn E) : Int → (List Int) → Option (Bool) := fun x0 x1 => call 25 (x0, x1)
def g26 (call : CallFn E) : ((List Int) × (Int × Int)) → Option (Bool × ((List Int) × (Int × Int))) := fun x0 => call 26 x0
def g27 (call : CallFn E) : ((List Int) × (Int × Int)) → Option (Int × Int × Int × Bool × ((List Int) × (Int × Int))) := fun x0 => call 27 x0
def g28 (call : CallFn E) : Int → ((List Int) × (Int × Int)) → Option ((List (List Int)) × Int × Bool × ((List Int) × (Int × Int))) := fun x0 x1 => call 28 (x0, x1)
def g29 (call : CallFn E) : ByteArray → ((List Int) × (Int × Int)) → Option (Bool × ((List Int) × (Int × Int))) := fun x0 x1 => call 29 (x0, x1)
def g30 (call : CallFn E) : (List Int) → Int → Int → Option (Bool) := fun x0 x1 x2 => call 30 (x0, x1, x2)
def g31 (call : CallFn E) : (List Int) → Int → Option (Int × Int × Int × Int) := fun x0 x1 => call 31 (x0, x1)
def g32 (call : CallFn E) : Int → (List Int) → Int → Option ((List Int) × Int) := fun x0 x1 x2 => call 32 (x0, x1, x2)
def g33 (call : CallFn E) : (List (List Int)) → (List (List Int)) → Option (Bool) := fun x0 x1 => call 33 (x0, x1)
def g34 (call : CallFn E) : (List (List Int)) → Option (Bool) := fun x0 => call 34 x0
def g35 (call : CallFn E) : Int → (List Int) → Option (Bool) := fun x0 x1 => call 35 (x0, x1)
def g36 (call : CallFn E) : Int → Int → (List Int) → Option ((List Int)) := fun x0 x1 x2 => call 36 (x0, x1, x2)
def g37 (call : CallFn E) : ((List Int) × (Int × Int)) → Option (Int × Bool × ((List Int) × (Int × Int))) := fun x0 => call 37 x0
def g38 (call : CallFn E) : ((List Int) × (Int × Int)) → Option ((List Int) × Bool × ((List Int) × (Int × Int))) := fun x0 => call 38 x0
def g39 (call : CallFn E) : (List Int) → (List Int) → Option (Bool) := fun x0 x1 => call 39 (x0, x1)
def g40 (call : CallFn E) : (List Int) → Int → Int → Option (Int × Int) := fun x0 x1 x2 => call 40 (x0, x1, x2)
def g41 (call : CallFn E) : (List Int) → Int → Option (Int) := fun x0 x1 => call 41 (x0, x1)
def g42 (call : CallFn E) : Int → Int → (List Int) → Option ((List Int)) := fun x0 x1 x2 => call 42 (x0, x1, x2)
def g43 (call : CallFn E) : (List Int) → Option ((List Int)) := fun x0 => call 43 x0
def g44 (call : CallFn E) : (List Int) → (List Int) → Option (Bool) := fun x0 x1 => call 44 (x0, x1)
def g45 (call : CallFn E) : (List Int) → Int → Option (Int) := fun x0 x1 => call 45 (x0, x1)
def g46 (call : CallFn E) : Int → Int → (List Int) → Option ((List Int)) := fun x0 x1 x2 => call 46 (x0, x1, x2)
noncomputable def q5 (call : CallFn E) (n : Nat) (a0 : (List Int)) : Option (Bool) := runHow E call n s5 a0 h5
theorem rr5 (call : CallFn E) (n : Nat) (a0 : (List Int)) : q5 call n a0 = r5 (g11 call) (g14 call) (g15 call) (g16 call)  a0 := by kernel_rfl
theorem gq5 (n : Nat) (a0 : (List Int)) : g5 (evalF E (n + 1)) a0 = q5 (evalF E n) n a0 := by kernel_rfl
def L9_0 : LH := ⟨[0, 6, 22, 23, 24], ⟨[.dat (.int .i64), .ref 0, .dat (.slice (.pair (.int .i64) (.pair (.slice (.slice (.int .u8))) (.one (.slice (.slice (.int .u8))))))), .dat (.int .i64), .dat (.int .i64)], [.row (.int .u8)]⟩, 0⟩
noncomputable def b9_0 : Code := codeAt c9 [1, 1, 1, 0, 1, 0, 0]
noncomputable def lq9_0 (call : CallFn E) (n m : Nat) (y : Int × (List (Int × ((List (List Int)) × (List (List Int))))) × Int × Int × (List Int)) : Option ((Int × (List (Int × ((List (List Int)) × (List (List Int))))) × Int × Int × (List Int)) ⊕ ((List Int) × Int)) := loopAt (ctxOf E call n s9 Tryd.f9 hs9) b9_0 [0, 1, 0, 1, 1, 1] L9_0 m y
theorem lp9_0 (call : CallFn E) (n m : Nat) (y : Int × (List (Int × ((List (List Int)) × (List (List Int))))) × Int × Int × (List Int)) : lq9_0 call n (m + 1) y = F9_0 (g17 call) (g18 call) (g19 call) (g20 call) (g21 call)  (lq9_0 call n m) y := by kernel_rfl
noncomputable def q9 (call : CallFn E) (n : Nat) (a0 : Int) (a1 : (List (Int × ((List (List Int)) × (List (List Int)))))) : Option ((List Int) × Int) := runHow E call n s9 (a0, a1) h9
theorem rr9 (call : CallFn E) (n : Nat) (a0 : Int) (a1 : (List (Int × ((List (List Int)) × (List (List Int)))))) : q9 call n a0 a1 = r9 (g17 call) (g18 call) (g19 call) (g20 call) (g21 call) (lq9_0 call n n) a0 a1 := by kernel_rfl
theorem gq9 (n : Nat) (a0 : Int) (a1 : (List (Int × ((List (List Int)) × (List (List Int)))))) : g9 (evalF E (n + 1)) a0 a1 = q9 (evalF E n) n a0 a1 := by kernel_rfl
noncomputable def q11 (call : CallFn E) (n : Nat) (_ : Unit) : Option (Bool) := runHow E call n s11 () h11
theorem rr11 (call : CallFn E) (n : Nat) (u : Unit) : q11 call n u = r11 (g9 call) (g14 call)  u := by kernel_rfl
theorem gq11 (n : Nat) (u : Unit) : g11 (evalF E (n + 1)) u = q11 (evalF E n) n u := by kernel_rfl
def L14_0 : LH := ⟨[0, 3, 6, 7], ⟨[.dat (.slice (.int .u8)), .ref 0, .ptr 1 0, .dat (.int .i64)], [.row (.pair (.int .i64) (.pair (.slice (.slice (.int .u8))) (.one (.slice (.slice (.int .u8)))))), .var (.pair (.slice (.int .u8)) (.pair (.int .i64) (.one (.int .i64))))]⟩, 0⟩
noncomputable def b14_0 : Code := codeAt c14 [1, 1, 1, 1, 0, 0, 0]
noncomputable def lq14_0 (call : CallFn E) (n m : Nat) (y : (List Int) × Int × (List (Int × ((List (List Int)) × (List (List Int))))) × ((List Int) × (Int × Int))) : Option (((List Int) × Int × (List (Int × ((List (List Int)) × (List (List Int))))) × ((List Int) × (Int × Int))) ⊕ (Int × (List (Int × ((List (List Int)) × (List (List Int))))) × Int × Int)) := loopAt (ctxOf E call n s14 Tryd.f14 hs14) b14_0 [0, 0, 1, 1, 1, 1] L14_0 m y
theorem lp14_0 (call : CallFn E) (n m : Nat) (y : (List Int) × Int × (List (Int × ((List (List Int)) × (List (List Int))))) × ((List Int) × (Int × Int))) : lq14_0 call n (m + 1) y = F14_0 (g26 call) (g27 call) (g28 call) (g29 call)  (lq14_0 call n m) y := by kernel_rfl
noncomputable def q14 (call : CallFn E) (n : Nat) (a0 : (List Int)) : Option (Int × (List (Int × ((List (List Int)) × (List (List Int))))) × Int × Int) := runHow E call n s14 a0 h14
theorem rr14 (call : CallFn E) (n : Nat) (a0 : (List Int)) : q14 call n a0 = r14 (g26 call) (g27 call) (g28 call) (g29 call) (lq14_0 call n n) a0 := by kernel_rfl
theorem gq14 (n : Nat) (a0 : (List Int)) : g14 (evalF E (n + 1)) a0 = q14 (evalF E n) n a0 := by kernel_rfl
def L15_0 : LH := ⟨[0, 6, 7, 10], ⟨[.dat (.slice (.int .u8)), .dat (.int .i64), .dat (.int .i64), .ref 0], [.row (.pair (.int .i64) (.pair (.slice (.slice (.int .u8))) (.one (.slice (.slice (.int .u8))))))]⟩, 2⟩
noncomputable def b15_0 : Code := codeAt c15 [1, 1, 1, 1, 1, 0, 0, 0]
noncomputable def lq15_0 (call : CallFn E) (n m : Nat) (y : (List Int) × Int × Int × (List (Int × ((List (List Int)) × (List (List Int)))))) : Option (((List Int) × Int × Int × (List (Int × ((List (List Int)) × (List (List Int)))))) ⊕ (Int × (List (Int × ((List (List Int)) × (List (List Int))))) × Int × Int)) := loopAt (ctxOf E call n s15 Tryd.f15 hs15) b15_0 [0, 0, 1, 1, 1, 1, 1] L15_0 m y
def L15_1 : LH := ⟨[0, 6, 7, 8], ⟨[.dat (.slice (.int .u8)), .dat (.int .i64), .dat (.int .i64), .dat (.int .i64)], []⟩, 0⟩
noncomputable def b15_1 : Code := codeAt c15 [1, 1, 0, 1, 0, 0]
noncomputable def lq15_1 (call : CallFn E) (n m : Nat) (y : (List Int) × Int × Int × Int) : Option (((List Int) × Int × Int × Int) ⊕ (Int × (List (Int × ((List (List Int)) × (List (List Int))))) × Int × Int)) := loopAt (ctxOf E call n s15 Tryd.f15 hs15) b15_1 [0, 1, 0, 1, 1] L15_1 m y
def L15_2 : LH := ⟨[0, 6, 7, 10, 12, 13, 15, 16], ⟨[.dat (.slice (.int .u8)), .dat (.int .i64), .dat (.int .i64), .ref 0, .dat (.int .i64), .dat (.int .i64), .ptr 1 0, .dat (.int .i64)], [.row (.pair (.int .i64) (.pair (.slice (.slice (.int .u8))) (.one (.slice (.slice (.int .u8)))))), .vst (.pair (.int .i64) (.pair (.slice (.slice (.int .u8))) (.one (.slice (.slice (.int .u8))))))]⟩, 4⟩
noncomputable def b15_2 : Code := codeAt c15 [1, 1, 1, 1, 1, 0, 0, 0, 1, 0, 1, 1, 1, 1, 0, 1, 0, 0]
noncomputable def lq15_2 (call : CallFn E) (n m : Nat) (y : (List Int) × Int × Int × Int × Int × Int × (List (Int × ((List (List Int)) × (List (List Int))))) × (Int × ((List (List Int)) × (List (List Int))))) : Option (((List Int) × Int × Int × Int × Int × Int × (List (Int × ((List (List Int)) × (List (List Int))))) × (Int × ((List (List Int)) × (List (List Int))))) ⊕ (Int × (List (Int × ((List (List Int)) × (List (List Int))))) × Int × Int)) := loopAt (ctxOf E call n s15 Tryd.f15 hs15) b15_2 [0, 1, 0, 1, 1, 1, 1, 0, 1, 0, 0, 0, 1, 1, 1, 1, 1] L15_2 m y
theorem lp15_2 (call : CallFn E) (n m : Nat) (y : (List Int) × Int × Int × Int × Int × Int × (List (Int × ((List (List Int)) × (List (List Int))))) × (Int × ((List (List Int)) × (List (List Int))))) : lq15_2 call n (m + 1) y = F15_2 (g22 call) (g30 call) (g31 call) (g32 call)  (lq15_2 call n m) y := by kernel_rfl
theorem lp15_0 (call : CallFn E) (n m : Nat) (y : (List Int) × Int × Int × (List (Int × ((List (List Int)) × (List (List Int)))))) : lq15_0 call n (m + 1) y = F15_0 (g22 call) (g30 call) (g31 call) (g32 call) (lq15_2 call n n) (lq15_0 call n m) y := by kernel_rfl
theorem lp15_1 (call : CallFn E) (n m : Nat) (y : (List Int) × Int × Int × Int) : lq15_1 call n (m + 1) y = F15_1 (g22 call) (g30 call) (g31 call) (g32 call)  (lq15_1 call n m) y := by kernel_rfl
noncomputable def q15 (call : CallFn E) (n : Nat) (a0 : (List Int)) : Option (Int × (List (Int × ((List (List Int)) × (List (List Int))))) × Int × Int) := runHow E call n s15 a0 h15
theorem rr15 (call : CallFn E) (n : Nat) (a0 : (List Int)) : q15 call n a0 = r15 (g22 call) (g30 call) (g31 call) (g32 call) (lq15_0 call n n) (lq15_1 call n n) (lq15_2 call n n) a0 := by kernel_rfl
theorem gq15 (n : Nat) (a0 : (List Int)) : g15 (evalF E (n + 1)) a0 = q15 (evalF E n) n a0 := by kernel_rfl
def L16_0 : LH := ⟨[0, 1, 5], ⟨[.dat (.slice (.pair (.int .i64) (.pair (.slice (.slice (.int .u8))) (.one (.slice (.slice (.int .u8))))))), .dat (.slice (.pair (.int .i64) (.pair (.slice (.slice (.int .u8))) (.one (.slice (.slice (.int .u8))))))), .dat (.int .i64)], []⟩, 0⟩
noncomputable def b16_0 : Code := codeAt c16 [1, 1, 0, 1, 0, 0]
noncomputable def lq16_0 (call : CallFn E) (n m : Nat) (y : (List (Int × ((List (List Int)) × (List (List Int))))) × (List (Int × ((List (List Int)) × (List (List Int))))) × Int) : Option (((List (Int × ((List (List Int)) × (List (List Int))))) × (List (Int × ((List (List Int)) × (List (List Int))))) × Int) ⊕ (Bool)) := loopAt (ctxOf E call n s16 Tryd.f16 hs16) b16_0 [0, 1, 0, 1, 1] L16_0 m y
theorem lp16_0 (call : CallFn E) (n m : Nat) (y : (List (Int × ((List (List Int)) × (List (List Int))))) × (List (Int × ((List (List Int)) × (List (List Int))))) × Int) : lq16_0 call n (m + 1) y = F16_0 (g33 call)  (lq16_0 call n m) y := by kernel_rfl
noncomputable def q16 (call : CallFn E) (n : Nat) (a0 : (List (Int × ((List (List Int)) × (List (List Int)))))) (a1 : (List (Int × ((List (List Int)) × (List (List Int)))))) : Option (Bool) := runHow E call n s16 (a0, a1) h16
theorem rr16 (call : CallFn E) (n : Nat) (a0 : (List (Int × ((List (List Int)) × (List (List Int)))))) (a1 : (List (Int × ((List (List Int)) × (List (List Int)))))) : q16 call n a0 a1 = r16 (g33 call) (lq16_0 call n n) a0 a1 := by kernel_rfl
theorem gq16 (n : Nat) (a0 : (List (Int × ((List (List Int)) × (List (List Int)))))) (a1 : (List (Int × ((List (List Int)) × (List (List Int)))))) : g16 (evalF E (n + 1)) a0 a1 = q16 (evalF E n) n a0 a1 := by kernel_rfl
noncomputable def q17 (call : CallFn E) (n : Nat) (a0 : Int) : Option (ByteArray) := runHow E call n s17 a0 h17
theorem rr17 (call : CallFn E) (n : Nat) (a0 : Int) : q17 call n a0 = r17   a0 := by kernel_rfl
theorem gq17 (n : Nat) (a0 : Int) : g17 (evalF E (n + 1)) a0 = q17 (evalF E n) n a0 := by kernel_rfl
def L18_0 : LH := ⟨[3, 6, 7, 8], ⟨[.dat (.int .i64), .dat (.slice (.pair (.int .i64) (.pair (.slice (.slice (.int .u8))) (.one (.slice (.slice (.int .u8))))))), .dat (.int .i64), .dat (.int .i64)], []⟩, 0⟩
noncomputable def b18_0 : Code := codeAt c18 [1, 1, 0, 1, 0, 0]
noncomputable def lq18_0 (call : CallFn E) (n m : Nat) (y : Int × (List (Int × ((List (List Int)) × (List (List Int))))) × Int × Int) : Option ((Int × (List (Int × ((List (List Int)) × (List (List Int))))) × Int × Int) ⊕ (Bool)) := loopAt (ctxOf E call n s18 Tryd.f18 hs18) b18_0 [0, 1, 0, 1, 1] L18_0 m y
theorem lp18_0 (call : CallFn E) (n m : Nat) (y : Int × (List (Int × ((List (List Int)) × (List (List Int))))) × Int × Int) : lq18_0 call n (m + 1) y = F18_0 (g34 call)  (lq18_0 call n m) y := by kernel_rfl
noncomputable def q18 (call : CallFn E) (n : Nat) (a0 : (List (Int × ((List (List Int)) × (List (List Int)))))) : Option (Bool) := runHow E call n s18 a0 h18
theorem rr18 (call : CallFn E) (n : Nat) (a0 : (List (Int × ((List (List Int)) × (List (List Int)))))) : q18 call n a0 = r18 (g34 call) (lq18_0 call n n) a0 := by kernel_rfl
theorem gq18 (n : Nat) (a0 : (List (Int × ((List (List Int)) × (List (List Int)))))) : g18 (evalF E (n + 1)) a0 = q18 (evalF E n) n a0 := by kernel_rfl
def L19_0 : LH := ⟨[0, 10, 11, 12], ⟨[.dat (.int .i64), .dat (.slice (.slice (.int .u8))), .dat (.int .i64), .dat (.int .i64)], []⟩, 0⟩
noncomputable def b19_0 : Code := codeAt c19 [1, 1, 0, 1, 0, 0]
noncomputable def lq19_0 (call : CallFn E) (n m : Nat) (y : Int × (List (List Int)) × Int × Int) : Option ((Int × (List (List Int)) × Int × Int) ⊕ (Bool)) := loopAt (ctxOf E call n s19 Tryd.f19 hs19) b19_0 [0, 1, 0, 1, 1] L19_0 m y
theorem lp19_0 (call : CallFn E) (n m : Nat) (y : Int × (List (List Int)) × Int × Int) : lq19_0 call n (m + 1) y = F19_0 (g35 call)  (lq19_0 call n m) y := by kernel_rfl
noncomputable def q19 (call : CallFn E) (n : Nat) (a0 : Int) (a1 : (List (List Int))) : Option (Bool) := runHow E call n s19 (a0, a1) h19
theorem rr19 (call : CallFn E) (n : Nat) (a0 : Int) (a1 : (List (List Int))) : q19 call n a0 a1 = r19 (g35 call) (lq19_0 call n n) a0 a1 := by kernel_rfl
theorem gq19 (n : Nat) (a0 : Int) (a1 : (List (List Int))) : g19 (evalF E (n + 1)) a0 a1 = q19 (evalF E n) n a0 a1 := by kernel_rfl
noncomputable def q20 (call : CallFn E) (n : Nat) (a0 : Int) (a1 : (List Int)) : Option ((List Int)) := runHow E call n s20 (a0, a1) h20
theorem rr20 (call : CallFn E) (n : Nat) (a0 : Int) (a1 : (List Int)) : q20 call n a0 a1 = r20 (g36 call)  a0 a1 := by kernel_rfl
theorem gq20 (n : Nat) (a0 : Int) (a1 : (List Int)) : g20 (evalF E (n + 1)) a0 a1 = q20 (evalF E n) n a0 a1 := by kernel_rfl
def L21_0 : LH := ⟨[0, 7, 8, 9], ⟨[.ref 1, .dat (.slice (.slice (.int .u8))), .dat (.int .i64), .dat (.int .i64)], [.dead, .row (.int .u8)]⟩, 0⟩
noncomputable def b21_0 : Code := codeAt c21 [1, 0, 1, 0, 0]
noncomputable def lq21_0 (call : CallFn E) (n m : Nat) (y : (List (List Int)) × Int × Int × (List Int)) : Option (((List (List Int)) × Int × Int × (List Int)) ⊕ ((List Int))) := loopAt (ctxOf E call n s21 Tryd.f21 hs21) b21_0 [0, 1, 0, 1] L21_0 m y
theorem lp21_0 (call : CallFn E) (n m : Nat) (y : (List (List Int)) × Int × Int × (List Int)) : lq21_0 call n (m + 1) y = F21_0 (g20 call)  (lq21_0 call n m) y := by kernel_rfl
noncomputable def q21 (call : CallFn E) (n : Nat) (a0 : (List (List Int))) (a1 : (List Int)) : Option ((List Int)) := runHow E call n s21 (a0, a1) h21
theorem rr21 (call : CallFn E) (n : Nat) (a0 : (List (List Int))) (a1 : (List Int)) : q21 call n a0 a1 = r21 (g20 call) (lq21_0 call n n) a0 a1 := by kernel_rfl
theorem gq21 (n : Nat) (a0 : (List (List Int))) (a1 : (List Int)) : g21 (evalF E (n + 1)) a0 a1 = q21 (evalF E n) n a0 a1 := by kernel_rfl
noncomputable def q22 (call : CallFn E) (n : Nat) (a0 : Int) : Option (ByteArray) := runHow E call n s22 a0 h22
theorem rr22 (call : CallFn E) (n : Nat) (a0 : Int) : q22 call n a0 = r22   a0 := by kernel_rfl
theorem gq22 (n : Nat) (a0 : Int) : g22 (evalF E (n + 1)) a0 = q22 (evalF E n) n a0 := by kernel_rfl
def L25_0 : LH := ⟨[1, 5], ⟨[.dat (.slice (.int .u8)), .dat (.int .i64)], []⟩, 0⟩
noncomputable def b25_0 : Code := codeAt c25 [1, 1, 1, 0, 1, 0, 0]
noncomputable def lq25_0 (call : CallFn E) (n m : Nat) (y : (List Int) × Int) : Option (((List Int) × Int) ⊕ (Bool)) := loopAt (ctxOf E call n s25 Tryd.f25 hs25) b25_0 [0, 1, 0, 1, 1, 1] L25_0 m y
theorem lp25_0 (call : CallFn E) (n m : Nat) (y : (List Int) × Int) : lq25_0 call n (m + 1) y = F25_0   (lq25_0 call n m) y := by kernel_rfl
noncomputable def q25 (call : CallFn E) (n : Nat) (a0 : Int) (a1 : (List Int)) : Option (Bool) := runHow E call n s25 (a0, a1) h25
theorem rr25 (call : CallFn E) (n : Nat) (a0 : Int) (a1 : (List Int)) : q25 call n a0 a1 = r25  (lq25_0 call n n) a0 a1 := by kernel_rfl
theorem gq25 (n : Nat) (a0 : Int) (a1 : (List Int)) : g25 (evalF E (n + 1)) a0 a1 = q25 (evalF E n) n a0 a1 := by kernel_rfl
def L26_0 : LH := ⟨[0, 5, 6, 7], ⟨[.ptr 0 0, .dat (.slice (.int .i64)), .dat (.int .i64), .dat (.int .i64)], [.var (.pair (.slice (.int .u8)) (.pair (.int .i64) (.one (.int .i64))))]⟩, 0⟩
noncomputable def b26_0 : Code := codeAt c26 [1, 0, 1, 0, 0]
noncomputable def lq26_0 (call : CallFn E) (n m : Nat) (y : (List Int) × Int × Int × ((List Int) × (Int × Int))) : Option (((List Int) × Int × Int × ((List Int) × (Int × Int))) ⊕ (Bool × ((List Int) × (Int × Int)))) := loopAt (ctxOf E call n s26 Tryd.f26 hs26) b26_0 [0, 1, 0, 1] L26_0 m y
theorem lp26_0 (call : CallFn E) (n m : Nat) (y : (List Int) × Int × Int × ((List Int) × (Int × Int))) : lq26_0 call n (m + 1) y = F26_0 (g17 call) (g29 call)  (lq26_0 call n m) y := by kernel_rfl
noncomputable def q26 (call : CallFn E) (n : Nat) (a0 : ((List Int) × (Int × Int))) : Option (Bool × ((List Int) × (Int × Int))) := runHow E call n s26 a0 h26
theorem rr26 (call : CallFn E) (n : Nat) (a0 : ((List Int) × (Int × Int))) : q26 call n a0 = r26 (g17 call) (g29 call) (lq26_0 call n n) a0 := by kernel_rfl
theorem gq26 (n : Nat) (a0 : ((List Int) × (Int × Int))) : g26 (evalF E (n + 1)) a0 = q26 (evalF E n) n a0 := by kernel_rfl
noncomputable def q27 (call : CallFn E) (n : Nat) (a0 : ((List Int) × (Int × Int))) : Option (Int × Int × Int × Bool × ((List Int) × (Int × Int))) := runHow E call n s27 a0 h27
theorem rr27 (call : CallFn E) (n : Nat) (a0 : ((List Int) × (Int × Int))) : q27 call n a0 = r27 (g29 call) (g37 call)  a0 := by kernel_rfl
theorem gq27 (n : Nat) (a0 : ((List Int) × (Int × Int))) : g27 (evalF E (n + 1)) a0 = q27 (evalF E n) n a0 := by kernel_rfl
def L28_0 : LH := ⟨[0, 4, 10, 11], ⟨[.ptr 0 0, .ref 1, .dat (.int .i64), .dat (.int .i64)], [.var (.pair (.slice (.int .u8)) (.pair (.int .i64) (.one (.int .i64)))), .row (.slice (.int .u8))]⟩, 0⟩
noncomputable def b28_0 : Code := codeAt c28 [1, 0, 1, 0, 0]
noncomputable def lq28_0 (call : CallFn E) (n m : Nat) (y : Int × Int × ((List Int) × (Int × Int)) × (List (List Int))) : Option ((Int × Int × ((List Int) × (Int × Int)) × (List (List Int))) ⊕ ((List (List Int)) × Int × Bool × ((List Int) × (Int × Int)))) := loopAt (ctxOf E call n s28 Tryd.f28 hs28) b28_0 [0, 1, 0, 1] L28_0 m y
theorem lp28_0 (call : CallFn E) (n m : Nat) (y : Int × Int × ((List Int) × (Int × Int)) × (List (List Int))) : lq28_0 call n (m + 1) y = F28_0 (g38 call)  (lq28_0 call n m) y := by kernel_rfl
noncomputable def q28 (call : CallFn E) (n : Nat) (a0 : Int) (a1 : ((List Int) × (Int × Int))) : Option ((List (List Int)) × Int × Bool × ((List Int) × (Int × Int))) := runHow E call n s28 (a0, a1) h28
theorem rr28 (call : CallFn E) (n : Nat) (a0 : Int) (a1 : ((List Int) × (Int × Int))) : q28 call n a0 a1 = r28 (g38 call) (lq28_0 call n n) a0 a1 := by kernel_rfl
theorem gq28 (n : Nat) (a0 : Int) (a1 : ((List Int) × (Int × Int))) : g28 (evalF E (n + 1)) a0 a1 = q28 (evalF E n) n a0 a1 := by kernel_rfl
noncomputable def q29 (call : CallFn E) (n : Nat) (a0 : ByteArray) (a1 : ((List Int) × (Int × Int))) : Option (Bool × ((List Int) × (Int × Int))) := runHow E call n s29 (a0, a1) h29
theorem rr29 (call : CallFn E) (n : Nat) (a0 : ByteArray) (a1 : ((List Int) × (Int × Int))) : q29 call n a0 a1 = r29 (g39 call)  a0 a1 := by kernel_rfl
theorem gq29 (n : Nat) (a0 : ByteArray) (a1 : ((List Int) × (Int × Int))) : g29 (evalF E (n + 1)) a0 a1 = q29 (evalF E n) n a0 a1 := by kernel_rfl
noncomputable def q30 (call : CallFn E) (n : Nat) (a0 : (List Int)) (a1 : Int) (a2 : Int) : Option (Bool) := runHow E call n s30 (a0, a1, a2) h30
theorem rr30 (call : CallFn E) (n : Nat) (a0 : (List Int)) (a1 : Int) (a2 : Int) : q30 call n a0 a1 a2 = r30   a0 a1 a2 := by kernel_rfl
theorem gq30 (n : Nat) (a0 : (List Int)) (a1 : Int) (a2 : Int) : g30 (evalF E (n + 1)) a0 a1 a2 = q30 (evalF E n) n a0 a1 a2 := by kernel_rfl
noncomputable def q31 (call : CallFn E) (n : Nat) (a0 : (List Int)) (a1 : Int) : Option (Int × Int × Int × Int) := runHow E call n s31 (a0, a1) h31
theorem rr31 (call : CallFn E) (n : Nat) (a0 : (List Int)) (a1 : Int) : q31 call n a0 a1 = r31 (g30 call) (g40 call)  a0 a1 := by kernel_rfl
theorem gq31 (n : Nat) (a0 : (List Int)) (a1 : Int) : g31 (evalF E (n + 1)) a0 a1 = q31 (evalF E n) n a0 a1 := by kernel_rfl
noncomputable def q32 (call : CallFn E) (n : Nat) (a0 : Int) (a1 : (List Int)) (a2 : Int) : Option ((List Int) × Int) := runHow E call n s32 (a0, a1, a2) h32
theorem rr32 (call : CallFn E) (n : Nat) (a0 : Int) (a1 : (List Int)) (a2 : Int) : q32 call n a0 a1 a2 = r32 (g25 call) (g30 call) (g40 call)  a0 a1 a2 := by kernel_rfl
theorem gq32 (n : Nat) (a0 : Int) (a1 : (List Int)) (a2 : Int) : g32 (evalF E (n + 1)) a0 a1 a2 = q32 (evalF E n) n a0 a1 a2 := by kernel_rfl
def L33_0 : LH := ⟨[0, 1, 5], ⟨[.dat (.slice (.slice (.int .u8))), .dat (.slice (.slice (.int .u8))), .dat (.int .i64)], []⟩, 0⟩
noncomputable def b33_0 : Code := codeAt c33 [1, 1, 0, 1, 0, 0]
noncomputable def lq33_0 (call : CallFn E) (n m : Nat) (y : (List (List Int)) × (List (List Int)) × Int) : Option (((List (List Int)) × (List (List Int)) × Int) ⊕ (Bool)) := loopAt (ctxOf E call n s33 Tryd.f33 hs33) b33_0 [0, 1, 0, 1, 1] L33_0 m y
theorem lp33_0 (call : CallFn E) (n m : Nat) (y : (List (List Int)) × (List (List Int)) × Int) : lq33_0 call n (m + 1) y = F33_0   (lq33_0 call n m) y := by kernel_rfl
noncomputable def q33 (call : CallFn E) (n : Nat) (a0 : (List (List Int))) (a1 : (List (List Int))) : Option (Bool) := runHow E call n s33 (a0, a1) h33
theorem rr33 (call : CallFn E) (n : Nat) (a0 : (List (List Int))) (a1 : (List (List Int))) : q33 call n a0 a1 = r33  (lq33_0 call n n) a0 a1 := by kernel_rfl
theorem gq33 (n : Nat) (a0 : (List (List Int))) (a1 : (List (List Int))) : g33 (evalF E (n + 1)) a0 a1 = q33 (evalF E n) n a0 a1 := by kernel_rfl
def L34_0 : LH := ⟨[5, 6, 7], ⟨[.dat (.slice (.slice (.int .u8))), .dat (.int .i64), .dat (.int .i64)], []⟩, 0⟩
noncomputable def b34_0 : Code := codeAt c34 [1, 0, 1, 0, 0]
noncomputable def lq34_0 (call : CallFn E) (n m : Nat) (y : (List (List Int)) × Int × Int) : Option (((List (List Int)) × Int × Int) ⊕ (Bool)) := loopAt (ctxOf E call n s34 Tryd.f34 hs34) b34_0 [0, 1, 0, 1] L34_0 m y
theorem lp34_0 (call : CallFn E) (n m : Nat) (y : (List (List Int)) × Int × Int) : lq34_0 call n (m + 1) y = F34_0   (lq34_0 call n m) y := by kernel_rfl
noncomputable def q34 (call : CallFn E) (n : Nat) (a0 : (List (List Int))) : Option (Bool) := runHow E call n s34 a0 h34
theorem rr34 (call : CallFn E) (n : Nat) (a0 : (List (List Int))) : q34 call n a0 = r34  (lq34_0 call n n) a0 := by kernel_rfl
theorem gq34 (n : Nat) (a0 : (List (List Int))) : g34 (evalF E (n + 1)) a0 = q34 (evalF E n) n a0 := by kernel_rfl
noncomputable def q35 (call : CallFn E) (n : Nat) (a0 : Int) (a1 : (List Int)) : Option (Bool) := runHow E call n s35 (a0, a1) h35
theorem rr35 (call : CallFn E) (n : Nat) (a0 : Int) (a1 : (List Int)) : q35 call n a0 a1 = r35 (g41 call)  a0 a1 := by kernel_rfl
theorem gq35 (n : Nat) (a0 : Int) (a1 : (List Int)) : g35 (evalF E (n + 1)) a0 a1 = q35 (evalF E n) n a0 a1 := by kernel_rfl
noncomputable def q36 (call : CallFn E) (n : Nat) (a0 : Int) (a1 : Int) (a2 : (List Int)) : Option ((List Int)) := runHow E call n s36 (a0, a1, a2) h36
theorem rr36 (call : CallFn E) (n : Nat) (a0 : Int) (a1 : Int) (a2 : (List Int)) : q36 call n a0 a1 a2 = r36 (g42 call)  a0 a1 a2 := by kernel_rfl
theorem gq36 (n : Nat) (a0 : Int) (a1 : Int) (a2 : (List Int)) : g36 (evalF E (n + 1)) a0 a1 a2 = q36 (evalF E n) n a0 a1 a2 := by kernel_rfl
def L37_0 : LH := ⟨[0, 4, 5], ⟨[.ptr 0 0, .dat (.int .i64), .dat (.int .i64)], [.var (.pair (.slice (.int .u8)) (.pair (.int .i64) (.one (.int .i64))))]⟩, 0⟩
noncomputable def b37_0 : Code := codeAt c37 [1, 1, 0, 0, 0]
noncomputable def lq37_0 (call : CallFn E) (n m : Nat) (y : Int × Int × ((List Int) × (Int × Int))) : Option ((Int × Int × ((List Int) × (Int × Int))) ⊕ (Int × Bool × ((List Int) × (Int × Int)))) := loopAt (ctxOf E call n s37 Tryd.f37 hs37) b37_0 [0, 0, 1, 1] L37_0 m y
theorem lp37_0 (call : CallFn E) (n m : Nat) (y : Int × Int × ((List Int) × (Int × Int))) : lq37_0 call n (m + 1) y = F37_0   (lq37_0 call n m) y := by kernel_rfl
noncomputable def q37 (call : CallFn E) (n : Nat) (a0 : ((List Int) × (Int × Int))) : Option (Int × Bool × ((List Int) × (Int × Int))) := runHow E call n s37 a0 h37
theorem rr37 (call : CallFn E) (n : Nat) (a0 : ((List Int) × (Int × Int))) : q37 call n a0 = r37  (lq37_0 call n n) a0 := by kernel_rfl
theorem gq37 (n : Nat) (a0 : ((List Int) × (Int × Int))) : g37 (evalF E (n + 1)) a0 = q37 (evalF E n) n a0 := by kernel_rfl
noncomputable def q38 (call : CallFn E) (n : Nat) (a0 : ((List Int) × (Int × Int))) : Option ((List Int) × Bool × ((List Int) × (Int × Int))) := runHow E call n s38 a0 h38
theorem rr38 (call : CallFn E) (n : Nat) (a0 : ((List Int) × (Int × Int))) : q38 call n a0 = r38 (g29 call) (g35 call) (g37 call) (g43 call)  a0 := by kernel_rfl
theorem gq38 (n : Nat) (a0 : ((List Int) × (Int × Int))) : g38 (evalF E (n + 1)) a0 = q38 (evalF E n) n a0 := by kernel_rfl
noncomputable def q39 (call : CallFn E) (n : Nat) (a0 : (List Int)) (a1 : (List Int)) : Option (Bool) := runHow E call n s39 (a0, a1) h39
theorem rr39 (call : CallFn E) (n : Nat) (a0 : (List Int)) (a1 : (List Int)) : q39 call n a0 a1 = r39 (g44 call)  a0 a1 := by kernel_rfl
theorem gq39 (n : Nat) (a0 : (List Int)) (a1 : (List Int)) : g39 (evalF E (n + 1)) a0 a1 = q39 (evalF E n) n a0 a1 := by kernel_rfl
def L40_0 : LH := ⟨[0, 1, 2, 8, 9], ⟨[.dat (.slice (.int .u8)), .dat (.int .i64), .dat (.int .i64), .dat (.int .i64), .dat (.int .i64)], []⟩, 0⟩
noncomputable def b40_0 : Code := codeAt c40 [1, 1, 0, 0, 0]
noncomputable def lq40_0 (call : CallFn E) (n m : Nat) (y : (List Int) × Int × Int × Int × Int) : Option (((List Int) × Int × Int × Int × Int) ⊕ (Int × Int)) := loopAt (ctxOf E call n s40 Tryd.f40 hs40) b40_0 [0, 0, 1, 1] L40_0 m y
theorem lp40_0 (call : CallFn E) (n m : Nat) (y : (List Int) × Int × Int × Int × Int) : lq40_0 call n (m + 1) y = F40_0   (lq40_0 call n m) y := by kernel_rfl
noncomputable def q40 (call : CallFn E) (n : Nat) (a0 : (List Int)) (a1 : Int) (a2 : Int) : Option (Int × Int) := runHow E call n s40 (a0, a1, a2) h40
theorem rr40 (call : CallFn E) (n : Nat) (a0 : (List Int)) (a1 : Int) (a2 : Int) : q40 call n a0 a1 a2 = r40  (lq40_0 call n n) a0 a1 a2 := by kernel_rfl
theorem gq40 (n : Nat) (a0 : (List Int)) (a1 : Int) (a2 : Int) : g40 (evalF E (n + 1)) a0 a1 a2 = q40 (evalF E n) n a0 a1 a2 := by kernel_rfl
noncomputable def q41 (call : CallFn E) (n : Nat) (a0 : (List Int)) (a1 : Int) : Option (Int) := runHow E call n s41 (a0, a1) h41
theorem rr41 (call : CallFn E) (n : Nat) (a0 : (List Int)) (a1 : Int) : q41 call n a0 a1 = r41 (g45 call)  a0 a1 := by kernel_rfl
theorem gq41 (n : Nat) (a0 : (List Int)) (a1 : Int) : g41 (evalF E (n + 1)) a0 a1 = q41 (evalF E n) n a0 a1 := by kernel_rfl
noncomputable def q42 (call : CallFn E) (n : Nat) (a0 : Int) (a1 : Int) (a2 : (List Int)) : Option ((List Int)) := runHow E call n s42 (a0, a1, a2) h42
theorem rr42 (call : CallFn E) (n : Nat) (a0 : Int) (a1 : Int) (a2 : (List Int)) : q42 call n a0 a1 a2 = r42 (g46 call)  a0 a1 a2 := by kernel_rfl
theorem gq42 (n : Nat) (a0 : Int) (a1 : Int) (a2 : (List Int)) : g42 (evalF E (n + 1)) a0 a1 a2 = q42 (evalF E n) n a0 a1 a2 := by kernel_rfl
noncomputable def q44 (call : CallFn E) (n : Nat) (a0 : (List Int)) (a1 : (List Int)) : Option (Bool) := runHow E call n s44 (a0, a1) h44
theorem rr44 (call : CallFn E) (n : Nat) (a0 : (List Int)) (a1 : (List Int)) : q44 call n a0 a1 = r44   a0 a1 := by kernel_rfl
theorem gq44 (n : Nat) (a0 : (List Int)) (a1 : (List Int)) : g44 (evalF E (n + 1)) a0 a1 = q44 (evalF E n) n a0 a1 := by kernel_rfl
def R17 : Nat → Int → Option (ByteArray)
  | 0, _ => none
  | n + 1, a0 => r17   a0
theorem u17 (n : Nat) (a0 : Int) : R17 (n + 1) a0 = r17   a0 := rfl
theorem e17 : ∀ (n : Nat), g17 (evalF E n) = R17 n
  | 0 => by funext a0; rfl
  | n + 1 => by
    funext a0
    rw [gq17, rr17]
    rfl
def R34 : Nat → (List (List Int)) → Option (Bool)
  | 0, _ => none
  | n + 1, a0 => r34  (iter (F34_0  ) n) a0
def J34_0 (n m : Nat) : ((List (List Int)) × Int × Int) → Option (((List (List Int)) × Int × Int) ⊕ (Bool)) := iter (F34_0  ) m
theorem j34_0 (n m : Nat) (x : (List (List Int)) × Int × Int) : J34_0 n (m + 1) x = F34_0   (J34_0 n m) x := rfl
theorem u34 (n : Nat) (a0 : (List (List Int))) : R34 (n + 1) a0 = r34  (J34_0 n n) a0 := rfl
theorem e34 : ∀ (n : Nat), g34 (evalF E n) = R34 n
  | 0 => by funext a0; rfl
  | n + 1 => by
    have l0 : lq34_0 (evalF E n) n n = (iter (F34_0  ) n) := iter_of (g := lq34_0 (evalF E n) n) rfl (fun m y => by rw [lp34_0]) n
    funext a0
    rw [gq34, rr34]
    simp only [l0]
    rfl
def R18 : Nat → (List (Int × ((List (List Int)) × (List (List Int))))) → Option (Bool)
  | 0, _ => none
  | n + 1, a0 => r18 (R34 n) (iter (F18_0 (R34 n) ) n) a0
def J18_0 (n m : Nat) : (Int × (List (Int × ((List (List Int)) × (List (List Int))))) × Int × Int) → Option ((Int × (List (Int × ((List (List Int)) × (List (List Int))))) × Int × Int) ⊕ (Bool)) := iter (F18_0 (R34 n) ) m
theorem j18_0 (n m : Nat) (x : Int × (List (Int × ((List (List Int)) × (List (List Int))))) × Int × Int) : J18_0 n (m + 1) x = F18_0 (R34 n)  (J18_0 n m) x := rfl
theorem u18 (n : Nat) (a0 : (List (Int × ((List (List Int)) × (List (List Int)))))) : R18 (n + 1) a0 = r18 (R34 n) (J18_0 n n) a0 := rfl
theorem e18 : ∀ (n : Nat), g18 (evalF E n) = R18 n
  | 0 => by funext a0; rfl
  | n + 1 => by
    have l0 : lq18_0 (evalF E n) n n = (iter (F18_0 (R34 n) ) n) := iter_of (g := lq18_0 (evalF E n) n) rfl (fun m y => by rw [lp18_0]; simp only [e34 n]) n
    funext a0
    rw [gq18, rr18]
    simp only [e34 n, l0]
    rfl
def R45 : Nat → (List Int) → Int → Option (Int)
  | 0, _, _ => none
  | _ + 1, a0, a1 => BytesX.indexB (a0, a1)
theorem e45 (n : Nat) : g45 (evalF E n) = R45 n := by cases n <;> rfl
def R41 : Nat → (List Int) → Int → Option (Int)
  | 0, _, _ => none
  | n + 1, a0, a1 => r41 (R45 n)  a0 a1
theorem u41 (n : Nat) (a0 : (List Int)) (a1 : Int) : R41 (n + 1) a0 a1 = r41 (R45 n)  a0 a1 := rfl
theorem e41 : ∀ (n : Nat), g41 (evalF E n) = R41 n
  | 0 => by funext a0 a1; rfl
  | n + 1 => by
    funext a0 a1
    rw [gq41, rr41]
    simp only [e45 n]
    rfl
def R35 : Nat → Int → (List Int) → Option (Bool)
  | 0, _, _ => none
  | n + 1, a0, a1 => r35 (R41 n)  a0 a1
theorem u35 (n : Nat) (a0 : Int) (a1 : (List Int)) : R35 (n + 1) a0 a1 = r35 (R41 n)  a0 a1 := rfl
theorem e35 : ∀ (n : Nat), g35 (evalF E n) = R35 n
  | 0 => by funext a0 a1; rfl
  | n + 1 => by
    funext a0 a1
    rw [gq35, rr35]
    simp only [e41 n]
    rfl
def R19 : Nat → Int → (List (List Int)) → Option (Bool)
  | 0, _, _ => none
  | n + 1, a0, a1 => r19 (R35 n) (iter (F19_0 (R35 n) ) n) a0 a1
def J19_0 (n m : Nat) : (Int × (List (List Int)) × Int × Int) → Option ((Int × (List (List Int)) × Int × Int) ⊕ (Bool)) := iter (F19_0 (R35 n) ) m
theorem j19_0 (n m : Nat) (x : Int × (List (List Int)) × Int × Int) : J19_0 n (m + 1) x = F19_0 (R35 n)  (J19_0 n m) x := rfl
theorem u19 (n : Nat) (a0 : Int) (a1 : (List (List Int))) : R19 (n + 1) a0 a1 = r19 (R35 n) (J19_0 n n) a0 a1 := rfl
theorem e19 : ∀ (n : Nat), g19 (evalF E n) = R19 n
  | 0 => by funext a0 a1; rfl
  | n + 1 => by
    have l0 : lq19_0 (evalF E n) n n = (iter (F19_0 (R35 n) ) n) := iter_of (g := lq19_0 (evalF E n) n) rfl (fun m y => by rw [lp19_0]; simp only [e35 n]) n
    funext a0 a1
    rw [gq19, rr19]
    simp only [e35 n, l0]
    rfl
def R46 : Nat → Int → Int → (List Int) → Option ((List Int))
  | 0, _, _, _ => none
  | _ + 1, a0, a1, a2 => BytesX.appU (a0, a1, a2)
theorem e46 (n : Nat) : g46 (evalF E n) = R46 n := by cases n <;> rfl
def R42 : Nat → Int → Int → (List Int) → Option ((List Int))
  | 0, _, _, _ => none
  | n + 1, a0, a1, a2 => r42 (R46 n)  a0 a1 a2
theorem u42 (n : Nat) (a0 : Int) (a1 : Int) (a2 : (List Int)) : R42 (n + 1) a0 a1 a2 = r42 (R46 n)  a0 a1 a2 := rfl
theorem e42 : ∀ (n : Nat), g42 (evalF E n) = R42 n
  | 0 => by funext a0 a1 a2; rfl
  | n + 1 => by
    funext a0 a1 a2
    rw [gq42, rr42]
    simp only [e46 n]
    rfl
def R36 : Nat → Int → Int → (List Int) → Option ((List Int))
  | 0, _, _, _ => none
  | n + 1, a0, a1, a2 => r36 (R42 n)  a0 a1 a2
theorem u36 (n : Nat) (a0 : Int) (a1 : Int) (a2 : (List Int)) : R36 (n + 1) a0 a1 a2 = r36 (R42 n)  a0 a1 a2 := rfl
theorem e36 : ∀ (n : Nat), g36 (evalF E n) = R36 n
  | 0 => by funext a0 a1 a2; rfl
  | n + 1 => by
    funext a0 a1 a2
    rw [gq36, rr36]
    simp only [e42 n]
    rfl
def R20 : Nat → Int → (List Int) → Option ((List Int))
  | 0, _, _ => none
  | n + 1, a0, a1 => r20 (R36 n)  a0 a1
theorem u20 (n : Nat) (a0 : Int) (a1 : (List Int)) : R20 (n + 1) a0 a1 = r20 (R36 n)  a0 a1 := rfl
theorem e20 : ∀ (n : Nat), g20 (evalF E n) = R20 n
  | 0 => by funext a0 a1; rfl
  | n + 1 => by
    funext a0 a1
    rw [gq20, rr20]
    simp only [e36 n]
    rfl
def R21 : Nat → (List (List Int)) → (List Int) → Option ((List Int))
  | 0, _, _ => none
  | n + 1, a0, a1 => r21 (R20 n) (iter (F21_0 (R20 n) ) n) a0 a1
def J21_0 (n m : Nat) : ((List (List Int)) × Int × Int × (List Int)) → Option (((List (List Int)) × Int × Int × (List Int)) ⊕ ((List Int))) := iter (F21_0 (R20 n) ) m
theorem j21_0 (n m : Nat) (x : (List (List Int)) × Int × Int × (List Int)) : J21_0 n (m + 1) x = F21_0 (R20 n)  (J21_0 n m) x := rfl
theorem u21 (n : Nat) (a0 : (List (List Int))) (a1 : (List Int)) : R21 (n + 1) a0 a1 = r21 (R20 n) (J21_0 n n) a0 a1 := rfl
theorem e21 : ∀ (n : Nat), g21 (evalF E n) = R21 n
  | 0 => by funext a0 a1; rfl
  | n + 1 => by
    have l0 : lq21_0 (evalF E n) n n = (iter (F21_0 (R20 n) ) n) := iter_of (g := lq21_0 (evalF E n) n) rfl (fun m y => by rw [lp21_0]; simp only [e20 n]) n
    funext a0 a1
    rw [gq21, rr21]
    simp only [e20 n, l0]
    rfl
def R9 : Nat → Int → (List (Int × ((List (List Int)) × (List (List Int))))) → Option ((List Int) × Int)
  | 0, _, _ => none
  | n + 1, a0, a1 => r9 (R17 n) (R18 n) (R19 n) (R20 n) (R21 n) (iter (F9_0 (R17 n) (R18 n) (R19 n) (R20 n) (R21 n) ) n) a0 a1
def J9_0 (n m : Nat) : (Int × (List (Int × ((List (List Int)) × (List (List Int))))) × Int × Int × (List Int)) → Option ((Int × (List (Int × ((List (List Int)) × (List (List Int))))) × Int × Int × (List Int)) ⊕ ((List Int) × Int)) := iter (F9_0 (R17 n) (R18 n) (R19 n) (R20 n) (R21 n) ) m
theorem j9_0 (n m : Nat) (x : Int × (List (Int × ((List (List Int)) × (List (List Int))))) × Int × Int × (List Int)) : J9_0 n (m + 1) x = F9_0 (R17 n) (R18 n) (R19 n) (R20 n) (R21 n)  (J9_0 n m) x := rfl
theorem u9 (n : Nat) (a0 : Int) (a1 : (List (Int × ((List (List Int)) × (List (List Int)))))) : R9 (n + 1) a0 a1 = r9 (R17 n) (R18 n) (R19 n) (R20 n) (R21 n) (J9_0 n n) a0 a1 := rfl
theorem e9 : ∀ (n : Nat), g9 (evalF E n) = R9 n
  | 0 => by funext a0 a1; rfl
  | n + 1 => by
    have l0 : lq9_0 (evalF E n) n n = (iter (F9_0 (R17 n) (R18 n) (R19 n) (R20 n) (R21 n) ) n) := iter_of (g := lq9_0 (evalF E n) n) rfl (fun m y => by rw [lp9_0]; simp only [e17 n, e18 n, e19 n, e20 n, e21 n]) n
    funext a0 a1
    rw [gq9, rr9]
    simp only [e17 n, e18 n, e19 n, e20 n, e21 n, l0]
    rfl
def R44 : Nat → (List Int) → (List Int) → Option (Bool)
  | 0, _, _ => none
  | n + 1, a0, a1 => r44   a0 a1
theorem u44 (n : Nat) (a0 : (List Int)) (a1 : (List Int)) : R44 (n + 1) a0 a1 = r44   a0 a1 := rfl
theorem e44 : ∀ (n : Nat), g44 (evalF E n) = R44 n
  | 0 => by funext a0 a1; rfl
  | n + 1 => by
    funext a0 a1
    rw [gq44, rr44]
    rfl
def R39 : Nat → (List Int) → (List Int) → Option (Bool)
  | 0, _, _ => none
  | n + 1, a0, a1 => r39 (R44 n)  a0 a1
theorem u39 (n : Nat) (a0 : (List Int)) (a1 : (List Int)) : R39 (n + 1) a0 a1 = r39 (R44 n)  a0 a1 := rfl
theorem e39 : ∀ (n : Nat), g39 (evalF E n) = R39 n
  | 0 => by funext a0 a1; rfl
  | n + 1 => by
    funext a0 a1
    rw [gq39, rr39]
    simp only [e44 n]
    rfl
def R29 : Nat → ByteArray → ((List Int) × (Int × Int)) → Option (Bool × ((List Int) × (Int × Int)))
  | 0, _, _ => none
  | n + 1, a0, a1 => r29 (R39 n)  a0 a1
theorem u29 (n : Nat) (a0 : ByteArray) (a1 : ((List Int) × (Int × Int))) : R29 (n + 1) a0 a1 = r29 (R39 n)  a0 a1 := rfl
theorem e29 : ∀ (n : Nat), g29 (evalF E n) = R29 n
  | 0 => by funext a0 a1; rfl
  | n + 1 => by
    funext a0 a1
    rw [gq29, rr29]
    simp only [e39 n]
    rfl
def R26 : Nat → ((List Int) × (Int × Int)) → Option (Bool × ((List Int) × (Int × Int)))
  | 0, _ => none
  | n + 1, a0 => r26 (R17 n) (R29 n) (iter (F26_0 (R17 n) (R29 n) ) n) a0
def J26_0 (n m : Nat) : ((List Int) × Int × Int × ((List Int) × (Int × Int))) → Option (((List Int) × Int × Int × ((List Int) × (Int × Int))) ⊕ (Bool × ((List Int) × (Int × Int)))) := iter (F26_0 (R17 n) (R29 n) ) m
theorem j26_0 (n m : Nat) (x : (List Int) × Int × Int × ((List Int) × (Int × Int))) : J26_0 n (m + 1) x = F26_0 (R17 n) (R29 n)  (J26_0 n m) x := rfl
theorem u26 (n : Nat) (a0 : ((List Int) × (Int × Int))) : R26 (n + 1) a0 = r26 (R17 n) (R29 n) (J26_0 n n) a0 := rfl
theorem e26 : ∀ (n : Nat), g26 (evalF E n) = R26 n
  | 0 => by funext a0; rfl
  | n + 1 => by
    have l0 : lq26_0 (evalF E n) n n = (iter (F26_0 (R17 n) (R29 n) ) n) := iter_of (g := lq26_0 (evalF E n) n) rfl (fun m y => by rw [lp26_0]; simp only [e17 n, e29 n]) n
    funext a0
    rw [gq26, rr26]
    simp only [e17 n, e29 n, l0]
    rfl
def R37 : Nat → ((List Int) × (Int × Int)) → Option (Int × Bool × ((List Int) × (Int × Int)))
  | 0, _ => none
  | n + 1, a0 => r37  (iter (F37_0  ) n) a0
def J37_0 (n m : Nat) : (Int × Int × ((List Int) × (Int × Int))) → Option ((Int × Int × ((List Int) × (Int × Int))) ⊕ (Int × Bool × ((List Int) × (Int × Int)))) := iter (F37_0  ) m
theorem j37_0 (n m : Nat) (x : Int × Int × ((List Int) × (Int × Int))) : J37_0 n (m + 1) x = F37_0   (J37_0 n m) x := rfl
theorem u37 (n : Nat) (a0 : ((List Int) × (Int × Int))) : R37 (n + 1) a0 = r37  (J37_0 n n) a0 := rfl
theorem e37 : ∀ (n : Nat), g37 (evalF E n) = R37 n
  | 0 => by funext a0; rfl
  | n + 1 => by
    have l0 : lq37_0 (evalF E n) n n = (iter (F37_0  ) n) := iter_of (g := lq37_0 (evalF E n) n) rfl (fun m y => by rw [lp37_0]) n
    funext a0
    rw [gq37, rr37]
    simp only [l0]
    rfl
def R27 : Nat → ((List Int) × (Int × Int)) → Option (Int × Int × Int × Bool × ((List Int) × (Int × Int)))
  | 0, _ => none
  | n + 1, a0 => r27 (R29 n) (R37 n)  a0
theorem u27 (n : Nat) (a0 : ((List Int) × (Int × Int))) : R27 (n + 1) a0 = r27 (R29 n) (R37 n)  a0 := rfl
theorem e27 : ∀ (n : Nat), g27 (evalF E n) = R27 n
  | 0 => by funext a0; rfl
  | n + 1 => by
    funext a0
    rw [gq27, rr27]
    simp only [e29 n, e37 n]
    rfl
def R43 : Nat → (List Int) → Option ((List Int))
  | 0, _ => none
  | _ + 1, a0 => BytesX.cloneB a0
theorem e43 (n : Nat) : g43 (evalF E n) = R43 n := by cases n <;> rfl
def R38 : Nat → ((List Int) × (Int × Int)) → Option ((List Int) × Bool × ((List Int) × (Int × Int)))
  | 0, _ => none
  | n + 1, a0 => r38 (R29 n) (R35 n) (R37 n) (R43 n)  a0
theorem u38 (n : Nat) (a0 : ((List Int) × (Int × Int))) : R38 (n + 1) a0 = r38 (R29 n) (R35 n) (R37 n) (R43 n)  a0 := rfl
theorem e38 : ∀ (n : Nat), g38 (evalF E n) = R38 n
  | 0 => by funext a0; rfl
  | n + 1 => by
    funext a0
    rw [gq38, rr38]
    simp only [e29 n, e35 n, e37 n, e43 n]
    rfl
def R28 : Nat → Int → ((List Int) × (Int × Int)) → Option ((List (List Int)) × Int × Bool × ((List Int) × (Int × Int)))
  | 0, _, _ => none
  | n + 1, a0, a1 => r28 (R38 n) (iter (F28_0 (R38 n) ) n) a0 a1
def J28_0 (n m : Nat) : (Int × Int × ((List Int) × (Int × Int)) × (List (List Int))) → Option ((Int × Int × ((List Int) × (Int × Int)) × (List (List Int))) ⊕ ((List (List Int)) × Int × Bool × ((List Int) × (Int × Int)))) := iter (F28_0 (R38 n) ) m
theorem j28_0 (n m : Nat) (x : Int × Int × ((List Int) × (Int × Int)) × (List (List Int))) : J28_0 n (m + 1) x = F28_0 (R38 n)  (J28_0 n m) x := rfl
theorem u28 (n : Nat) (a0 : Int) (a1 : ((List Int) × (Int × Int))) : R28 (n + 1) a0 a1 = r28 (R38 n) (J28_0 n n) a0 a1 := rfl
theorem e28 : ∀ (n : Nat), g28 (evalF E n) = R28 n
  | 0 => by funext a0 a1; rfl
  | n + 1 => by
    have l0 : lq28_0 (evalF E n) n n = (iter (F28_0 (R38 n) ) n) := iter_of (g := lq28_0 (evalF E n) n) rfl (fun m y => by rw [lp28_0]; simp only [e38 n]) n
    funext a0 a1
    rw [gq28, rr28]
    simp only [e38 n, l0]
    rfl
def R14 : Nat → (List Int) → Option (Int × (List (Int × ((List (List Int)) × (List (List Int))))) × Int × Int)
  | 0, _ => none
  | n + 1, a0 => r14 (R26 n) (R27 n) (R28 n) (R29 n) (iter (F14_0 (R26 n) (R27 n) (R28 n) (R29 n) ) n) a0
def J14_0 (n m : Nat) : ((List Int) × Int × (List (Int × ((List (List Int)) × (List (List Int))))) × ((List Int) × (Int × Int))) → Option (((List Int) × Int × (List (Int × ((List (List Int)) × (List (List Int))))) × ((List Int) × (Int × Int))) ⊕ (Int × (List (Int × ((List (List Int)) × (List (List Int))))) × Int × Int)) := iter (F14_0 (R26 n) (R27 n) (R28 n) (R29 n) ) m
theorem j14_0 (n m : Nat) (x : (List Int) × Int × (List (Int × ((List (List Int)) × (List (List Int))))) × ((List Int) × (Int × Int))) : J14_0 n (m + 1) x = F14_0 (R26 n) (R27 n) (R28 n) (R29 n)  (J14_0 n m) x := rfl
theorem u14 (n : Nat) (a0 : (List Int)) : R14 (n + 1) a0 = r14 (R26 n) (R27 n) (R28 n) (R29 n) (J14_0 n n) a0 := rfl
theorem e14 : ∀ (n : Nat), g14 (evalF E n) = R14 n
  | 0 => by funext a0; rfl
  | n + 1 => by
    have l0 : lq14_0 (evalF E n) n n = (iter (F14_0 (R26 n) (R27 n) (R28 n) (R29 n) ) n) := iter_of (g := lq14_0 (evalF E n) n) rfl (fun m y => by rw [lp14_0]; simp only [e26 n, e27 n, e28 n, e29 n]) n
    funext a0
    rw [gq14, rr14]
    simp only [e26 n, e27 n, e28 n, e29 n, l0]
    rfl
def R11 : Nat → Unit → Option (Bool)
  | 0, _ => none
  | n + 1, u => r11 (R9 n) (R14 n)  u
theorem u11 (n : Nat) (_ : Unit) : R11 (n + 1) () = r11 (R9 n) (R14 n)  () := rfl
theorem e11 : ∀ (n : Nat), g11 (evalF E n) = R11 n
  | 0 => by funext u; rfl
  | n + 1 => by
    funext u
    rw [gq11, rr11]
    simp only [e9 n, e14 n]
    rfl
def R22 : Nat → Int → Option (ByteArray)
  | 0, _ => none
  | n + 1, a0 => r22   a0
theorem u22 (n : Nat) (a0 : Int) : R22 (n + 1) a0 = r22   a0 := rfl
theorem e22 : ∀ (n : Nat), g22 (evalF E n) = R22 n
  | 0 => by funext a0; rfl
  | n + 1 => by
    funext a0
    rw [gq22, rr22]
    rfl
def R30 : Nat → (List Int) → Int → Int → Option (Bool)
  | 0, _, _, _ => none
  | n + 1, a0, a1, a2 => r30   a0 a1 a2
theorem u30 (n : Nat) (a0 : (List Int)) (a1 : Int) (a2 : Int) : R30 (n + 1) a0 a1 a2 = r30   a0 a1 a2 := rfl
theorem e30 : ∀ (n : Nat), g30 (evalF E n) = R30 n
  | 0 => by funext a0 a1 a2; rfl
  | n + 1 => by
    funext a0 a1 a2
    rw [gq30, rr30]
    rfl
def R40 : Nat → (List Int) → Int → Int → Option (Int × Int)
  | 0, _, _, _ => none
  | n + 1, a0, a1, a2 => r40  (iter (F40_0  ) n) a0 a1 a2
def J40_0 (n m : Nat) : ((List Int) × Int × Int × Int × Int) → Option (((List Int) × Int × Int × Int × Int) ⊕ (Int × Int)) := iter (F40_0  ) m
theorem j40_0 (n m : Nat) (x : (List Int) × Int × Int × Int × Int) : J40_0 n (m + 1) x = F40_0   (J40_0 n m) x := rfl
theorem u40 (n : Nat) (a0 : (List Int)) (a1 : Int) (a2 : Int) : R40 (n + 1) a0 a1 a2 = r40  (J40_0 n n) a0 a1 a2 := rfl
theorem e40 : ∀ (n : Nat), g40 (evalF E n) = R40 n
  | 0 => by funext a0 a1 a2; rfl
  | n + 1 => by
    have l0 : lq40_0 (evalF E n) n n = (iter (F40_0  ) n) := iter_of (g := lq40_0 (evalF E n) n) rfl (fun m y => by rw [lp40_0]) n
    funext a0 a1 a2
    rw [gq40, rr40]
    simp only [l0]
    rfl
def R31 : Nat → (List Int) → Int → Option (Int × Int × Int × Int)
  | 0, _, _ => none
  | n + 1, a0, a1 => r31 (R30 n) (R40 n)  a0 a1
theorem u31 (n : Nat) (a0 : (List Int)) (a1 : Int) : R31 (n + 1) a0 a1 = r31 (R30 n) (R40 n)  a0 a1 := rfl
theorem e31 : ∀ (n : Nat), g31 (evalF E n) = R31 n
  | 0 => by funext a0 a1; rfl
  | n + 1 => by
    funext a0 a1
    rw [gq31, rr31]
    simp only [e30 n, e40 n]
    rfl
def R25 : Nat → Int → (List Int) → Option (Bool)
  | 0, _, _ => none
  | n + 1, a0, a1 => r25  (iter (F25_0  ) n) a0 a1
def J25_0 (n m : Nat) : ((List Int) × Int) → Option (((List Int) × Int) ⊕ (Bool)) := iter (F25_0  ) m
theorem j25_0 (n m : Nat) (x : (List Int) × Int) : J25_0 n (m + 1) x = F25_0   (J25_0 n m) x := rfl
theorem u25 (n : Nat) (a0 : Int) (a1 : (List Int)) : R25 (n + 1) a0 a1 = r25  (J25_0 n n) a0 a1 := rfl
theorem e25 : ∀ (n : Nat), g25 (evalF E n) = R25 n
  | 0 => by funext a0 a1; rfl
  | n + 1 => by
    have l0 : lq25_0 (evalF E n) n n = (iter (F25_0  ) n) := iter_of (g := lq25_0 (evalF E n) n) rfl (fun m y => by rw [lp25_0]) n
    funext a0 a1
    rw [gq25, rr25]
    simp only [l0]
    rfl
def R32 : Nat → Int → (List Int) → Int → Option ((List Int) × Int)
  | 0, _, _, _ => none
  | n + 1, a0, a1, a2 => r32 (R25 n) (R30 n) (R40 n)  a0 a1 a2
theorem u32 (n : Nat) (a0 : Int) (a1 : (List Int)) (a2 : Int) : R32 (n + 1) a0 a1 a2 = r32 (R25 n) (R30 n) (R40 n)  a0 a1 a2 := rfl
theorem e32 : ∀ (n : Nat), g32 (evalF E n) = R32 n
  | 0 => by funext a0 a1 a2; rfl
  | n + 1 => by
    funext a0 a1 a2
    rw [gq32, rr32]
    simp only [e25 n, e30 n, e40 n]
    rfl
def R15 : Nat → (List Int) → Option (Int × (List (Int × ((List (List Int)) × (List (List Int))))) × Int × Int)
  | 0, _ => none
  | n + 1, a0 => r15 (R22 n) (R30 n) (R31 n) (R32 n) (iter (F15_0 (R22 n) (R30 n) (R31 n) (R32 n) (iter (F15_2 (R22 n) (R30 n) (R31 n) (R32 n) ) n)) n) (iter (F15_1 (R22 n) (R30 n) (R31 n) (R32 n) ) n) (iter (F15_2 (R22 n) (R30 n) (R31 n) (R32 n) ) n) a0
def J15_2 (n m : Nat) : ((List Int) × Int × Int × Int × Int × Int × (List (Int × ((List (List Int)) × (List (List Int))))) × (Int × ((List (List Int)) × (List (List Int))))) → Option (((List Int) × Int × Int × Int × Int × Int × (List (Int × ((List (List Int)) × (List (List Int))))) × (Int × ((List (List Int)) × (List (List Int))))) ⊕ (Int × (List (Int × ((List (List Int)) × (List (List Int))))) × Int × Int)) := iter (F15_2 (R22 n) (R30 n) (R31 n) (R32 n) ) m
theorem j15_2 (n m : Nat) (x : (List Int) × Int × Int × Int × Int × Int × (List (Int × ((List (List Int)) × (List (List Int))))) × (Int × ((List (List Int)) × (List (List Int))))) : J15_2 n (m + 1) x = F15_2 (R22 n) (R30 n) (R31 n) (R32 n)  (J15_2 n m) x := rfl
def J15_0 (n m : Nat) : ((List Int) × Int × Int × (List (Int × ((List (List Int)) × (List (List Int)))))) → Option (((List Int) × Int × Int × (List (Int × ((List (List Int)) × (List (List Int)))))) ⊕ (Int × (List (Int × ((List (List Int)) × (List (List Int))))) × Int × Int)) := iter (F15_0 (R22 n) (R30 n) (R31 n) (R32 n) (J15_2 n n)) m
theorem j15_0 (n m : Nat) (x : (List Int) × Int × Int × (List (Int × ((List (List Int)) × (List (List Int)))))) : J15_0 n (m + 1) x = F15_0 (R22 n) (R30 n) (R31 n) (R32 n) (J15_2 n n) (J15_0 n m) x := rfl
def J15_1 (n m : Nat) : ((List Int) × Int × Int × Int) → Option (((List Int) × Int × Int × Int) ⊕ (Int × (List (Int × ((List (List Int)) × (List (List Int))))) × Int × Int)) := iter (F15_1 (R22 n) (R30 n) (R31 n) (R32 n) ) m
theorem j15_1 (n m : Nat) (x : (List Int) × Int × Int × Int) : J15_1 n (m + 1) x = F15_1 (R22 n) (R30 n) (R31 n) (R32 n)  (J15_1 n m) x := rfl
theorem u15 (n : Nat) (a0 : (List Int)) : R15 (n + 1) a0 = r15 (R22 n) (R30 n) (R31 n) (R32 n) (J15_0 n n) (J15_1 n n) (J15_2 n n) a0 := rfl
theorem e15 : ∀ (n : Nat), g15 (evalF E n) = R15 n
  | 0 => by funext a0; rfl
  | n + 1 => by
    have l2 : lq15_2 (evalF E n) n n = (iter (F15_2 (R22 n) (R30 n) (R31 n) (R32 n) ) n) := iter_of (g := lq15_2 (evalF E n) n) rfl (fun m y => by rw [lp15_2]; simp only [e22 n, e30 n, e31 n, e32 n]) n
    have l0 : lq15_0 (evalF E n) n n = (iter (F15_0 (R22 n) (R30 n) (R31 n) (R32 n) (iter (F15_2 (R22 n) (R30 n) (R31 n) (R32 n) ) n)) n) := iter_of (g := lq15_0 (evalF E n) n) rfl (fun m y => by rw [lp15_0]; simp only [e22 n, e30 n, e31 n, e32 n, l2]) n
    have l1 : lq15_1 (evalF E n) n n = (iter (F15_1 (R22 n) (R30 n) (R31 n) (R32 n) ) n) := iter_of (g := lq15_1 (evalF E n) n) rfl (fun m y => by rw [lp15_1]; simp only [e22 n, e30 n, e31 n, e32 n]) n
    funext a0
    rw [gq15, rr15]
    simp only [e22 n, e30 n, e31 n, e32 n, l0, l1, l2]
    rfl
def R33 : Nat → (List (List Int)) → (List (List Int)) → Option (Bool)
  | 0, _, _ => none
  | n + 1, a0, a1 => r33  (iter (F33_0  ) n) a0 a1
def J33_0 (n m : Nat) : ((List (List Int)) × (List (List Int)) × Int) → Option (((List (List Int)) × (List (List Int)) × Int) ⊕ (Bool)) := iter (F33_0  ) m
theorem j33_0 (n m : Nat) (x : (List (List Int)) × (List (List Int)) × Int) : J33_0 n (m + 1) x = F33_0   (J33_0 n m) x := rfl
theorem u33 (n : Nat) (a0 : (List (List Int))) (a1 : (List (List Int))) : R33 (n + 1) a0 a1 = r33  (J33_0 n n) a0 a1 := rfl
theorem e33 : ∀ (n : Nat), g33 (evalF E n) = R33 n
  | 0 => by funext a0 a1; rfl
  | n + 1 => by
    have l0 : lq33_0 (evalF E n) n n = (iter (F33_0  ) n) := iter_of (g := lq33_0 (evalF E n) n) rfl (fun m y => by rw [lp33_0]) n
    funext a0 a1
    rw [gq33, rr33]
    simp only [l0]
    rfl
def R16 : Nat → (List (Int × ((List (List Int)) × (List (List Int))))) → (List (Int × ((List (List Int)) × (List (List Int))))) → Option (Bool)
  | 0, _, _ => none
  | n + 1, a0, a1 => r16 (R33 n) (iter (F16_0 (R33 n) ) n) a0 a1
def J16_0 (n m : Nat) : ((List (Int × ((List (List Int)) × (List (List Int))))) × (List (Int × ((List (List Int)) × (List (List Int))))) × Int) → Option (((List (Int × ((List (List Int)) × (List (List Int))))) × (List (Int × ((List (List Int)) × (List (List Int))))) × Int) ⊕ (Bool)) := iter (F16_0 (R33 n) ) m
theorem j16_0 (n m : Nat) (x : (List (Int × ((List (List Int)) × (List (List Int))))) × (List (Int × ((List (List Int)) × (List (List Int))))) × Int) : J16_0 n (m + 1) x = F16_0 (R33 n)  (J16_0 n m) x := rfl
theorem u16 (n : Nat) (a0 : (List (Int × ((List (List Int)) × (List (List Int)))))) (a1 : (List (Int × ((List (List Int)) × (List (List Int)))))) : R16 (n + 1) a0 a1 = r16 (R33 n) (J16_0 n n) a0 a1 := rfl
theorem e16 : ∀ (n : Nat), g16 (evalF E n) = R16 n
  | 0 => by funext a0 a1; rfl
  | n + 1 => by
    have l0 : lq16_0 (evalF E n) n n = (iter (F16_0 (R33 n) ) n) := iter_of (g := lq16_0 (evalF E n) n) rfl (fun m y => by rw [lp16_0]; simp only [e33 n]) n
    funext a0 a1
    rw [gq16, rr16]
    simp only [e33 n, l0]
    rfl
def R5 : Nat → (List Int) → Option (Bool)
  | 0, _ => none
  | n + 1, a0 => r5 (R11 n) (R14 n) (R15 n) (R16 n)  a0
theorem u5 (n : Nat) (a0 : (List Int)) : R5 (n + 1) a0 = r5 (R11 n) (R14 n) (R15 n) (R16 n)  a0 := rfl
theorem e5 : ∀ (n : Nat), g5 (evalF E n) = R5 n
  | 0 => by funext a0; rfl
  | n + 1 => by
    funext a0
    rw [gq5, rr5]
    simp only [e11 n, e14 n, e15 n, e16 n]
    rfl
theorem law_R (n : Nat) (a0 : (List Int)) : runHow E (evalF E n) n s5 a0 h5 = R5 (n + 1) a0 := (gq5 n a0).symm.trans (congrFun (e5 (n + 1)) a0)
theorem okAll : EntriesOK Tryd.prog BytesX.XB 0 E.fns := ⟨trivial,
  trivial,
  trivial,
  trivial,
  trivial,
  ok5 BytesX.XB,
  trivial,
  trivial,
  trivial,
  ok9 BytesX.XB,
  trivial,
  ok11 BytesX.XB,
  trivial,
  trivial,
  ok14 BytesX.XB,
  ok15 BytesX.XB,
  ok16 BytesX.XB,
  ok17 BytesX.XB,
  ok18 BytesX.XB,
  ok19 BytesX.XB,
  ok20 BytesX.XB,
  ok21 BytesX.XB,
  ok22 BytesX.XB,
  trivial,
  trivial,
  ok25 BytesX.XB,
  ok26 BytesX.XB,
  ok27 BytesX.XB,
  ok28 BytesX.XB,
  ok29 BytesX.XB,
  ok30 BytesX.XB,
  ok31 BytesX.XB,
  ok32 BytesX.XB,
  ok33 BytesX.XB,
  ok34 BytesX.XB,
  ok35 BytesX.XB,
  ok36 BytesX.XB,
  ok37 BytesX.XB,
  ok38 BytesX.XB,
  ok39 BytesX.XB,
  ok40 BytesX.XB,
  ok41 BytesX.XB,
  ok42 BytesX.XB,
  fun _ _ _ h => BytesX.Clone_spec h,
  ok44 BytesX.XB,
  fun _ _ _ h => BytesX.IndexByte_spec h,
  fun _ _ _ h => BytesX.AppendUint_spec h, trivial⟩
theorem mixed : Tryd.prog.follows .mixedOrders = true := by kernel_rfl
theorem calls (n : Nat) : CallOK Tryd.prog BytesX.XB E (evalF E n) := evalF_sound BytesX.XB_ok tys mixed (entries_fn okAll) n
end Go.Proofs.YtdhbnblpkodhjaaDoor.ECodedReads
