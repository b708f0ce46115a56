import Derived.Test.YtdmmcjefpbbceaaDoorProg
import Derived.Test.YtdmmcjefpbbceaaDoorAeB
import Derived.Test.YtdmmcjefpbbceaaDoorLineX
namespace Go.Proofs.YtdmmcjefpbbceaaDoor.ELineWrites
open Go Go.Proofs.YtdmmcjefpbbceaaDoor.AE
set_option maxRecDepth 100000
set_option linter.unusedVariables false
-- tatting/tattinglaw30.LineWrites
noncomputable def c5 : Code := match Tryd.f5.body with | some c => c | none => .skip
def s5 : Sig := ⟨⟨[.dat (.pair (.int .i64) (.pair (.int .i64) (.pair (.int .i64) (.pair (.int .i64) (.pair (.int .i64) (.pair (.int .i64) (.pair (.slice (.int .u8)) (.one (.slice (.int .u8))))))))))], []⟩, ⟨[.dat .bool], []⟩⟩
def hs5 : List (List Nat × LH) := []
noncomputable def h5 : How s5 := .code Tryd.f5 c5 hs5
-- tatting/line.Parse
noncomputable def c8 : Code := match Tryd.f8.body with | some c => c | none => .skip
def s8 : Sig := ⟨⟨[.dat .str], []⟩, ⟨[.dat (.pair (.int .i64) (.pair (.int .i64) (.pair (.int .i64) (.pair (.int .i64) (.pair (.int .i64) (.pair (.int .i64) (.pair (.slice (.int .u8)) (.one (.slice (.int .u8)))))))))), .dat (.int .i64), .dat (.int .i64)], []⟩⟩
def hs8 : List (List Nat × LH) := [([0, 1, 0, 1, 1, 1, 1, 1, 1, 1], ⟨[0, 2, 3, 5, 8, 33, 34, 35], ⟨[.dat .str, .ptr 0 0, .dat (.int .i64), .dat (.slice .str), .dat (.slice (.int .i64)), .dat (.slice .str), .dat (.int .i64), .dat (.int .i64)], [.var (.pair (.int .i64) (.pair (.int .i64) (.pair (.int .i64) (.pair (.int .i64) (.pair (.int .i64) (.pair (.int .i64) (.pair (.slice (.int .u8)) (.one (.slice (.int .u8))))))))))]⟩, 0⟩)]
noncomputable def h8 : How s8 := .code Tryd.f8 c8 hs8
-- tatting/line.Text
noncomputable def c9 : Code := match Tryd.f9.body with | some c => c | none => .skip
def s9 : Sig := ⟨⟨[.dat (.pair (.int .i64) (.pair (.int .i64) (.pair (.int .i64) (.pair (.int .i64) (.pair (.int .i64) (.pair (.int .i64) (.pair (.slice (.int .u8)) (.one (.slice (.int .u8))))))))))], []⟩, ⟨[.dat .str, .dat (.int .i64)], []⟩⟩
def hs9 : List (List Nat × LH) := [([0, 1, 0, 1, 1], ⟨[1, 4, 17, 18, 19], ⟨[.ptr 0 0, .ref 1, .dat (.slice (.int .i64)), .dat (.int .i64), .dat (.int .i64)], [.var (.pair (.int .i64) (.pair (.int .i64) (.pair (.int .i64) (.pair (.int .i64) (.pair (.int .i64) (.pair (.int .i64) (.pair (.slice (.int .u8)) (.one (.slice (.int .u8)))))))))), .row .str]⟩, 0⟩)]
noncomputable def h9 : How s9 := .code Tryd.f9 c9 hs9
-- tatting/tattinglaw30.awake
noncomputable def c11 : Code := match Tryd.f11.body with | some c => c | none => .skip
def s11 : Sig := ⟨⟨[], []⟩, ⟨[.dat .bool], []⟩⟩
def hs11 : List (List Nat × LH) := []
noncomputable def h11 : How s11 := .code Tryd.f11 c11 hs11
-- tatting/tattingref29.Parse
noncomputable def c12 : Code := match Tryd.f12.body with | some c => c | none => .skip
def s12 : Sig := ⟨⟨[.dat .str], []⟩, ⟨[.dat (.pair (.int .i64) (.pair (.int .i64) (.pair (.int .i64) (.pair (.int .i64) (.pair (.int .i64) (.pair (.int .i64) (.pair (.slice (.int .u8)) (.one (.slice (.int .u8)))))))))), .dat (.int .i64), .dat (.int .i64)], []⟩⟩
def hs12 : List (List Nat × LH) := [([0, 1, 0, 1, 1, 1, 1, 1], ⟨[0, 2, 5, 6, 7, 8], ⟨[.dat .str, .ptr 0 0, .dat (.slice (.pair .str (.one (.int .i64)))), .ptr 1 0, .dat .str, .dat (.int .i64)], [.var (.pair (.int .i64) (.pair (.int .i64) (.pair (.int .i64) (.pair (.int .i64) (.pair (.int .i64) (.pair (.int .i64) (.pair (.slice (.int .u8)) (.one (.slice (.int .u8)))))))))), .var (.pair (.int .i64) (.pair (.int .i64) (.pair (.int .i64) (.pair (.int .i64) (.pair (.int .i64) (.pair (.int .i64) (.pair (.slice (.int .u8)) (.one (.slice (.int .u8))))))))))]⟩, 0⟩)]
noncomputable def h12 : How s12 := .code Tryd.f12 c12 hs12
-- tatting/tattingref29.SameCmd
noncomputable def c13 : Code := match Tryd.f13.body with | some c => c | none => .skip
def s13 : Sig := ⟨⟨[.dat (.pair (.int .i64) (.pair (.int .i64) (.pair (.int .i64) (.pair (.int .i64) (.pair (.int .i64) (.pair (.int .i64) (.pair (.slice (.int .u8)) (.one (.slice (.int .u8)))))))))), .dat (.pair (.int .i64) (.pair (.int .i64) (.pair (.int .i64) (.pair (.int .i64) (.pair (.int .i64) (.pair (.int .i64) (.pair (.slice (.int .u8)) (.one (.slice (.int .u8))))))))))], []⟩, ⟨[.dat .bool], []⟩⟩
def hs13 : List (List Nat × LH) := []
noncomputable def h13 : How s13 := .code Tryd.f13 c13 hs13
-- tatting/tattingref29.Text
noncomputable def c14 : Code := match Tryd.f14.body with | some c => c | none => .skip
def s14 : Sig := ⟨⟨[.dat (.pair (.int .i64) (.pair (.int .i64) (.pair (.int .i64) (.pair (.int .i64) (.pair (.int .i64) (.pair (.int .i64) (.pair (.slice (.int .u8)) (.one (.slice (.int .u8))))))))))], []⟩, ⟨[.dat .str, .dat (.int .i64)], []⟩⟩
def hs14 : List (List Nat × LH) := [([0, 1, 0, 1, 1, 1, 1], ⟨[1, 4, 5, 6], ⟨[.ptr 0 0, .dat .str, .dat .str, .dat (.int .i64)], [.var (.pair (.int .i64) (.pair (.int .i64) (.pair (.int .i64) (.pair (.int .i64) (.pair (.int .i64) (.pair (.int .i64) (.pair (.slice (.int .u8)) (.one (.slice (.int .u8))))))))))]⟩, 0⟩)]
noncomputable def h14 : How s14 := .code Tryd.f14 c14 hs14
-- tatting/line.kind
noncomputable def c16 : Code := match Tryd.f16.body with | some c => c | none => .skip
def s16 : Sig := ⟨⟨[.dat .str], []⟩, ⟨[.dat (.int .i64), .dat .bool], []⟩⟩
def hs16 : List (List Nat × LH) := [([0, 1, 0, 1], ⟨[0, 4], ⟨[.dat .str, .dat (.int .i64)], []⟩, 0⟩)]
noncomputable def h16 : How s16 := .code Tryd.f16 c16 hs16
-- tatting/line.form
noncomputable def c17 : Code := match Tryd.f17.body with | some c => c | none => .skip
def s17 : Sig := ⟨⟨[.dat (.int .i64)], []⟩, ⟨[.dat (.slice (.int .i64))], []⟩⟩
def hs17 : List (List Nat × LH) := []
noncomputable def h17 : How s17 := .code Tryd.f17 c17 hs17
-- tatting/line.take
noncomputable def c18 : Code := match Tryd.f18.body with | some c => c | none => .skip
def s18 : Sig := ⟨⟨[.ptr 0 0, .dat (.int .i64), .dat .str], [.var (.pair (.int .i64) (.pair (.int .i64) (.pair (.int .i64) (.pair (.int .i64) (.pair (.int .i64) (.pair (.int .i64) (.pair (.slice (.int .u8)) (.one (.slice (.int .u8))))))))))]⟩, ⟨[.dat .bool], [.var (.pair (.int .i64) (.pair (.int .i64) (.pair (.int .i64) (.pair (.int .i64) (.pair (.int .i64) (.pair (.int .i64) (.pair (.slice (.int .u8)) (.one (.slice (.int .u8))))))))))]⟩⟩
def hs18 : List (List Nat × LH) := []
noncomputable def h18 : How s18 := .code Tryd.f18 c18 hs18
-- tatting/line.name
noncomputable def c19 : Code := match Tryd.f19.body with | some c => c | none => .skip
def s19 : Sig := ⟨⟨[.dat (.int .i64)], []⟩, ⟨[.dat .str], []⟩⟩
def hs19 : List (List Nat × LH) := []
noncomputable def h19 : How s19 := .code Tryd.f19 c19 hs19
-- tatting/line.word
noncomputable def c20 : Code := match Tryd.f20.body with | some c => c | none => .skip
def s20 : Sig := ⟨⟨[.dat (.pair (.int .i64) (.pair (.int .i64) (.pair (.int .i64) (.pair (.int .i64) (.pair (.int .i64) (.pair (.int .i64) (.pair (.slice (.int .u8)) (.one (.slice (.int .u8)))))))))), .dat (.int .i64)], []⟩, ⟨[.dat .str], []⟩⟩
def hs20 : List (List Nat × LH) := []
noncomputable def h20 : How s20 := .code Tryd.f20 c20 hs20
-- tatting/line.same
noncomputable def c22 : Code := match Tryd.f22.body with | some c => c | none => .skip
def s22 : Sig := ⟨⟨[.dat (.pair (.int .i64) (.pair (.int .i64) (.pair (.int .i64) (.pair (.int .i64) (.pair (.int .i64) (.pair (.int .i64) (.pair (.slice (.int .u8)) (.one (.slice (.int .u8)))))))))), .dat (.pair (.int .i64) (.pair (.int .i64) (.pair (.int .i64) (.pair (.int .i64) (.pair (.int .i64) (.pair (.int .i64) (.pair (.slice (.int .u8)) (.one (.slice (.int .u8))))))))))], []⟩, ⟨[.dat .bool], []⟩⟩
def hs22 : List (List Nat × LH) := []
noncomputable def h22 : How s22 := .code Tryd.f22 c22 hs22
-- tatting/tattingref29.words
noncomputable def c23 : Code := match Tryd.f23.body with | some c => c | none => .skip
def s23 : Sig := ⟨⟨[.dat .str], []⟩, ⟨[.dat (.slice (.pair .str (.one (.int .i64))))], []⟩⟩
def hs23 : List (List Nat × LH) := [([0, 1, 0, 1, 1, 1], ⟨[0, 3, 4, 5], ⟨[.dat .str, .ref 0, .dat (.int .i64), .dat (.int .i64)], [.row (.pair .str (.one (.int .i64)))]⟩, 0⟩)]
noncomputable def h23 : How s23 := .code Tryd.f23 c23 hs23
-- tatting/tattingref29.kind
noncomputable def c24 : Code := match Tryd.f24.body with | some c => c | none => .skip
def s24 : Sig := ⟨⟨[.dat .str], []⟩, ⟨[.dat (.int .i64)], []⟩⟩
def hs24 : List (List Nat × LH) := [([0, 1, 0, 1, 1], ⟨[0, 3, 4], ⟨[.dat .str, .dat (.slice .str), .dat (.int .i64)], []⟩, 0⟩)]
noncomputable def h24 : How s24 := .code Tryd.f24 c24 hs24
-- tatting/tattingref29.fields
noncomputable def c25 : Code := match Tryd.f25.body with | some c => c | none => .skip
def s25 : Sig := ⟨⟨[.dat (.int .i64)], []⟩, ⟨[.dat .str], []⟩⟩
def hs25 : List (List Nat × LH) := []
noncomputable def h25 : How s25 := .code Tryd.f25 c25 hs25
-- tatting/tattingref29.field
noncomputable def c26 : Code := match Tryd.f26.body with | some c => c | none => .skip
def s26 : Sig := ⟨⟨[.dat (.pair (.int .i64) (.pair (.int .i64) (.pair (.int .i64) (.pair (.int .i64) (.pair (.int .i64) (.pair (.int .i64) (.pair (.slice (.int .u8)) (.one (.slice (.int .u8)))))))))), .dat (.int .u8), .dat .str], []⟩, ⟨[.dat (.pair (.int .i64) (.pair (.int .i64) (.pair (.int .i64) (.pair (.int .i64) (.pair (.int .i64) (.pair (.int .i64) (.pair (.slice (.int .u8)) (.one (.slice (.int .u8)))))))))), .dat .bool], []⟩⟩
def hs26 : List (List Nat × LH) := []
noncomputable def h26 : How s26 := .code Tryd.f26 c26 hs26
-- tatting/tattingref29.said
noncomputable def c27 : Code := match Tryd.f27.body with | some c => c | none => .skip
def s27 : Sig := ⟨⟨[.dat (.pair (.int .i64) (.pair (.int .i64) (.pair (.int .i64) (.pair (.int .i64) (.pair (.int .i64) (.pair (.int .i64) (.pair (.slice (.int .u8)) (.one (.slice (.int .u8)))))))))), .dat (.int .u8)], []⟩, ⟨[.dat .str], []⟩⟩
def hs27 : List (List Nat × LH) := []
noncomputable def h27 : How s27 := .code Tryd.f27 c27 hs27
-- tatting/tok.Mode
noncomputable def c29 : Code := match Tryd.f29.body with | some c => c | none => .skip
def s29 : Sig := ⟨⟨[.dat .str], []⟩, ⟨[.dat (.int .i64), .dat .bool], []⟩⟩
def hs29 : List (List Nat × LH) := []
noncomputable def h29 : How s29 := .code Tryd.f29 c29 hs29
-- tatting/line.engine
noncomputable def c30 : Code := match Tryd.f30.body with | some c => c | none => .skip
def s30 : Sig := ⟨⟨[.dat .str], []⟩, ⟨[.dat (.int .i64), .dat .bool], []⟩⟩
def hs30 : List (List Nat × LH) := []
noncomputable def h30 : How s30 := .code Tryd.f30 c30 hs30
-- tatting/line.number
noncomputable def c31 : Code := match Tryd.f31.body with | some c => c | none => .skip
def s31 : Sig := ⟨⟨[.dat .str], []⟩, ⟨[.dat (.int .i64), .dat .bool], []⟩⟩
def hs31 : List (List Nat × LH) := [([0, 1, 0, 1, 1, 1], ⟨[4, 20, 21, 22], ⟨[.dat (.int .i64), .dat (.slice (.int .u8)), .dat (.int .i64), .dat (.int .i64)], []⟩, 0⟩)]
noncomputable def h31 : How s31 := .code Tryd.f31 c31 hs31
-- tatting/line.bytesOf
noncomputable def c32 : Code := match Tryd.f32.body with | some c => c | none => .skip
def s32 : Sig := ⟨⟨[.dat .str], []⟩, ⟨[.dat (.slice (.int .u8)), .dat .bool], []⟩⟩
def hs32 : List (List Nat × LH) := [([0, 1, 0, 1, 1, 1, 1], ⟨[0, 4, 5], ⟨[.dat .str, .ref 0, .dat (.int .i64)], [.row (.int .u8)]⟩, 0⟩)]
noncomputable def h32 : How s32 := .code Tryd.f32 c32 hs32
-- tatting/tok.Name
noncomputable def c33 : Code := match Tryd.f33.body with | some c => c | none => .skip
def s33 : Sig := ⟨⟨[.dat (.int .i64)], []⟩, ⟨[.dat .str], []⟩⟩
def hs33 : List (List Nat × LH) := []
noncomputable def h33 : How s33 := .code Tryd.f33 c33 hs33
-- tatting/cost.Name
noncomputable def c34 : Code := match Tryd.f34.body with | some c => c | none => .skip
def s34 : Sig := ⟨⟨[.dat (.int .i64)], []⟩, ⟨[.dat .str], []⟩⟩
def hs34 : List (List Nat × LH) := []
noncomputable def h34 : How s34 := .code Tryd.f34 c34 hs34
-- tatting/line.hex
noncomputable def c37 : Code := match Tryd.f37.body with | some c => c | none => .skip
def s37 : Sig := ⟨⟨[.dat (.slice (.int .u8))], []⟩, ⟨[.dat .str], []⟩⟩
def hs37 : List (List Nat × LH) := [([0, 1, 0, 1, 1, 1], ⟨[3, 9, 10, 11], ⟨[.ref 0, .dat (.slice (.int .u8)), .dat (.int .i64), .dat (.int .i64)], [.row (.int .u8)]⟩, 0⟩)]
noncomputable def h37 : How s37 := .code Tryd.f37 c37 hs37
-- tatting/tattingref29.number
noncomputable def c41 : Code := match Tryd.f41.body with | some c => c | none => .skip
def s41 : Sig := ⟨⟨[.dat .str], []⟩, ⟨[.dat (.int .i64)], []⟩⟩
def hs41 : List (List Nat × LH) := []
noncomputable def h41 : How s41 := .code Tryd.f41 c41 hs41
-- tatting/tattingref1.Mode
noncomputable def c42 : Code := match Tryd.f42.body with | some c => c | none => .skip
def s42 : Sig := ⟨⟨[.dat .str], []⟩, ⟨[.dat (.int .i64), .dat .bool], []⟩⟩
def hs42 : List (List Nat × LH) := []
noncomputable def h42 : How s42 := .code Tryd.f42 c42 hs42
-- tatting/tattingref27.Tag
noncomputable def c43 : Code := match Tryd.f43.body with | some c => c | none => .skip
def s43 : Sig := ⟨⟨[.dat .str], []⟩, ⟨[.dat (.int .i64), .dat .bool], []⟩⟩
def hs43 : List (List Nat × LH) := [([0, 1, 0, 1], ⟨[0, 4], ⟨[.dat .str, .dat (.int .i64)], []⟩, 0⟩)]
noncomputable def h43 : How s43 := .code Tryd.f43 c43 hs43
-- tatting/tattingref29.bytesOf
noncomputable def c44 : Code := match Tryd.f44.body with | some c => c | none => .skip
def s44 : Sig := ⟨⟨[.dat .str], []⟩, ⟨[.dat (.slice (.int .u8)), .dat .bool], []⟩⟩
def hs44 : List (List Nat × LH) := [([0, 1, 0, 1, 1, 1, 1], ⟨[0, 4, 5], ⟨[.dat .str, .ref 0, .dat (.int .i64)], [.row (.int .u8)]⟩, 0⟩)]
noncomputable def h44 : How s44 := .code Tryd.f44 c44 hs44
-- tatting/tattingref1.Name
noncomputable def c45 : Code := match Tryd.f45.body with | some c => c | none => .skip
def s45 : Sig := ⟨⟨[.dat (.int .i64)], []⟩, ⟨[.dat .str], []⟩⟩
def hs45 : List (List Nat × LH) := []
noncomputable def h45 : How s45 := .code Tryd.f45 c45 hs45
-- tatting/tattingref27.Name
noncomputable def c46 : Code := match Tryd.f46.body with | some c => c | none => .skip
def s46 : Sig := ⟨⟨[.dat (.int .i64)], []⟩, ⟨[.dat .str], []⟩⟩
def hs46 : List (List Nat × LH) := []
noncomputable def h46 : How s46 := .code Tryd.f46 c46 hs46
-- tatting/tattingref29.digitsOf
noncomputable def c47 : Code := match Tryd.f47.body with | some c => c | none => .skip
def s47 : Sig := ⟨⟨[.dat (.int .i64)], []⟩, ⟨[.dat .str], []⟩⟩
def hs47 : List (List Nat × LH) := []
noncomputable def h47 : How s47 := .code Tryd.f47 c47 hs47
-- tatting/tattingref29.Hex
noncomputable def c48 : Code := match Tryd.f48.body with | some c => c | none => .skip
def s48 : Sig := ⟨⟨[.dat (.slice (.int .u8))], []⟩, ⟨[.dat .str], []⟩⟩
def hs48 : List (List Nat × LH) := [([0, 1, 0, 1, 1, 1], ⟨[0, 3, 4], ⟨[.dat (.slice (.int .u8)), .ref 0, .dat (.int .i64)], [.row (.int .u8)]⟩, 0⟩)]
noncomputable def h48 : How s48 := .code Tryd.f48 c48 hs48
-- tatting/cost.Tag
noncomputable def c52 : Code := match Tryd.f52.body with | some c => c | none => .skip
def s52 : Sig := ⟨⟨[.dat .str], []⟩, ⟨[.dat (.int .i64), .dat .bool], []⟩⟩
def hs52 : List (List Nat × LH) := [([0, 1, 0, 1], ⟨[0, 4], ⟨[.dat .str, .dat (.int .i64)], []⟩, 0⟩)]
noncomputable def h52 : How s52 := .code Tryd.f52 c52 hs52
-- tatting/tattingref24.Number
noncomputable def c58 : Code := match Tryd.f58.body with | some c => c | none => .skip
def s58 : Sig := ⟨⟨[.dat (.slice (.int .u8)), .dat (.int .i64), .dat (.int .i64)], []⟩, ⟨[.dat (.int .i64), .dat (.int .i64)], []⟩⟩
def hs58 : List (List Nat × LH) := [([0, 0, 1, 1], ⟨[0, 1, 2, 8, 9], ⟨[.dat (.slice (.int .u8)), .dat (.int .i64), .dat (.int .i64), .dat (.int .i64), .dat (.int .i64)], []⟩, 0⟩)]
noncomputable def h58 : How s58 := .code Tryd.f58 c58 hs58
-- tatting/tattingref29.half
noncomputable def c59 : Code := match Tryd.f59.body with | some c => c | none => .skip
def s59 : Sig := ⟨⟨[.dat (.int .u8)], []⟩, ⟨[.dat (.int .i64)], []⟩⟩
def hs59 : List (List Nat × LH) := [([0, 1, 0, 1], ⟨[0, 3], ⟨[.dat (.int .u8), .dat (.int .i64)], []⟩, 0⟩)]
noncomputable def h59 : How s59 := .code Tryd.f59 c59 hs59
-- tatting/tattingref24.Digits
noncomputable def c60 : Code := match Tryd.f60.body with | some c => c | none => .skip
def s60 : Sig := ⟨⟨[.dat (.int .i64)], []⟩, ⟨[.dat .str], []⟩⟩
def hs60 : List (List Nat × LH) := []
noncomputable def h60 : How s60 := .code Tryd.f60 c60 hs60
-- strings.Split
def s15 : Sig := ⟨⟨[.dat .str, .dat .str], []⟩, ⟨[.dat (.slice .str)], []⟩⟩
def h15 : How s15 := .orc (fun _ x => LineX.splitW x)
-- strings.Join
def s21 : Sig := ⟨⟨[.dat (.slice .str), .dat .str], []⟩, ⟨[.dat .str], []⟩⟩
def h21 : How s21 := .orc (fun _ x => LineX.joinW x)
-- strconv.Itoa
def s35 : Sig := ⟨⟨[.dat (.int .i64)], []⟩, ⟨[.dat .str], []⟩⟩
def h35 : How s35 := .orc (fun _ x => LineX.itoaW x)
-- strconv.FormatInt
def s36 : Sig := ⟨⟨[.dat (.int .i64), .dat (.int .i64)], []⟩, ⟨[.dat .str], []⟩⟩
def h36 : How s36 := .orc (fun _ x => LineX.fmtW x)
-- strings.IndexByte
def s53 : Sig := ⟨⟨[.dat .str, .dat (.int .u8)], []⟩, ⟨[.dat (.int .i64)], []⟩⟩
def h53 : How s53 := .orc (fun _ x => LineX.idxW x)
noncomputable def E : Env := {
  fns := [⟨Sig.none, .none⟩,
    ⟨Sig.none, .none⟩,
    ⟨Sig.none, .none⟩,
    ⟨Sig.none, .none⟩,
    ⟨Sig.none, .none⟩,
    ⟨s5, h5⟩,
    ⟨Sig.none, .none⟩,
    ⟨Sig.none, .none⟩,
    ⟨s8, h8⟩,
    ⟨s9, h9⟩,
    ⟨Sig.none, .none⟩,
    ⟨s11, h11⟩,
    ⟨s12, h12⟩,
    ⟨s13, h13⟩,
    ⟨s14, h14⟩,
    ⟨s15, h15⟩,
    ⟨s16, h16⟩,
    ⟨s17, h17⟩,
    ⟨s18, h18⟩,
    ⟨s19, h19⟩,
    ⟨s20, h20⟩,
    ⟨s21, h21⟩,
    ⟨s22, h22⟩,
    ⟨s23, h23⟩,
    ⟨s24, h24⟩,
    ⟨s25, h25⟩,
    ⟨s26, h26⟩,
    ⟨s27, h27⟩,
    ⟨Sig.none, .none⟩,
    ⟨s29, h29⟩,
    ⟨s30, h30⟩,
    ⟨s31, h31⟩,
    ⟨s32, h32⟩,
    ⟨s33, h33⟩,
    ⟨s34, h34⟩,
    ⟨s35, h35⟩,
    ⟨s36, h36⟩,
    ⟨s37, h37⟩,
    ⟨Sig.none, .none⟩,
    ⟨Sig.none, .none⟩,
    ⟨Sig.none, .none⟩,
    ⟨s41, h41⟩,
    ⟨s42, h42⟩,
    ⟨s43, h43⟩,
    ⟨s44, h44⟩,
    ⟨s45, h45⟩,
    ⟨s46, h46⟩,
    ⟨s47, h47⟩,
    ⟨s48, h48⟩,
    ⟨Sig.none, .none⟩,
    ⟨Sig.none, .none⟩,
    ⟨Sig.none, .none⟩,
    ⟨s52, h52⟩,
    ⟨s53, h53⟩,
    ⟨Sig.none, .none⟩,
    ⟨Sig.none, .none⟩,
    ⟨Sig.none, .none⟩,
    ⟨Sig.none, .none⟩,
    ⟨s58, h58⟩,
    ⟨s59, h59⟩,
    ⟨s60, h60⟩],
  tys := [none,
    none,
    some ⟨(.int .i64), 0⟩,
    some ⟨(.int .i64), 0⟩,
    some ⟨.bool, 0⟩,
    some ⟨(.int .u8), 0⟩,
    some ⟨(.int .u8), 0⟩,
    some ⟨(.pair (.int .i64) (.pair (.int .i64) (.pair .bool (.one (.int .u8))))), 0⟩,
    some ⟨(.pair (.int .i64) (.pair (.int .i64) (.pair .bool (.one (.int .u8))))), 0⟩,
    some ⟨.str, 0⟩,
    none,
    none,
    none,
    none,
    none,
    none,
    none,
    none,
    none,
    none,
    none,
    none,
    some ⟨(.slice (.int .u8)), 1⟩,
    none,
    some ⟨(.pair (.int .i64) (.pair (.int .i64) (.pair (.int .i64) (.pair (.int .i64) (.pair (.int .i64) (.pair (.int .i64) (.pair (.slice (.int .u8)) (.one (.slice (.int .u8)))))))))), 0⟩,
    some ⟨(.int .i64), 0⟩,
    none,
    none,
    none,
    none,
    none,
    none,
    none,
    none,
    none,
    none,
    some ⟨(.slice .str), 16⟩,
    none,
    none,
    none,
    some ⟨(.slice (.int .i64)), 8⟩,
    none,
    none,
    none,
    none,
    none,
    none,
    some ⟨(.slice (.pair .str (.one (.int .i64)))), 24⟩,
    none,
    none,
    some ⟨(.pair .str (.one (.int .i64))), 0⟩,
    none,
    none,
    none,
    none,
    none,
    none,
    none,
    none,
    none,
    none,
    none,
    none,
    none,
    none,
    none,
    none,
    none,
    none,
    none,
    none,
    none,
    none,
    none,
    none,
    none,
    none,
    none,
    none,
    none,
    none,
    none,
    none,
    none,
    none,
    none,
    none,
    none,
    none,
    none,
    none,
    none,
    none,
    none,
    none,
    none,
    none,
    none,
    none,
    none,
    none,
    none,
    none,
    none,
    none,
    none,
    none,
    none,
    none,
    none,
    none,
    none,
    none,
    none,
    none,
    none,
    none,
    none] }
theorem tys : tysOK Tryd.prog E.tys = true := by decide +kernel
theorem ok5 (X : ExtRep) : EntryOK Tryd.prog X 5 s5 h5 := ⟨Tryd.func5, rfl, by decide, by decide⟩
theorem ok8 (X : ExtRep) : EntryOK Tryd.prog X 8 s8 h8 := ⟨Tryd.func8, rfl, by decide, by decide⟩
theorem ok9 (X : ExtRep) : EntryOK Tryd.prog X 9 s9 h9 := ⟨Tryd.func9, rfl, by decide, by decide⟩
theorem ok11 (X : ExtRep) : EntryOK Tryd.prog X 11 s11 h11 := ⟨Tryd.func11, rfl, by decide, by decide⟩
theorem ok12 (X : ExtRep) : EntryOK Tryd.prog X 12 s12 h12 := ⟨Tryd.func12, rfl, by decide, by decide⟩
theorem ok13 (X : ExtRep) : EntryOK Tryd.prog X 13 s13 h13 := ⟨Tryd.func13, rfl, by decide, by decide⟩
theorem ok14 (X : ExtRep) : EntryOK Tryd.prog X 14 s14 h14 := ⟨Tryd.func14, rfl, by decide, by decide⟩
theorem ok16 (X : ExtRep) : EntryOK Tryd.prog X 16 s16 h16 := ⟨Tryd.func16, rfl, by decide, by decide⟩
theorem ok17 (X : ExtRep) : EntryOK Tryd.prog X 17 s17 h17 := ⟨Tryd.func17, rfl, by decide, by decide⟩
theorem ok18 (X : ExtRep) : EntryOK Tryd.prog X 18 s18 h18 := ⟨Tryd.func18, rfl, by decide, by decide⟩
theorem ok19 (X : ExtRep) : EntryOK Tryd.prog X 19 s19 h19 := ⟨Tryd.func19, rfl, by decide, by decide⟩
theorem ok20 (X : ExtRep) : EntryOK Tryd.prog X 20 s20 h20 := ⟨Tryd.func20, rfl, by decide, by decide⟩
theorem ok22 (X : ExtRep) : EntryOK Tryd.prog X 22 s22 h22 := ⟨Tryd.func22, rfl, by decide, by decide⟩
theorem ok23 (X : ExtRep) : EntryOK Tryd.prog X 23 s23 h23 := ⟨Tryd.func23, rfl, by decide, by decide⟩
theorem ok24 (X : ExtRep) : EntryOK Tryd.prog X 24 s24 h24 := ⟨Tryd.func24, rfl, by decide, by decide⟩
theorem ok25 (X : ExtRep) : EntryOK Tryd.prog X 25 s25 h25 := ⟨Tryd.func25, rfl, by decide, by decide⟩
theorem ok26 (X : ExtRep) : EntryOK Tryd.prog X 26 s26 h26 := ⟨Tryd.func26, rfl, by decide, by decide⟩
theorem ok27 (X : ExtRep) : EntryOK Tryd.prog X 27 s27 h27 := ⟨Tryd.func27, rfl, by decide, by decide⟩
theorem ok29 (X : ExtRep) : EntryOK Tryd.prog X 29 s29 h29 := ⟨Tryd.func29, rfl, by decide, by decide⟩
theorem ok30 (X : ExtRep) : EntryOK Tryd.prog X 30 s30 h30 := ⟨Tryd.func30, rfl, by decide, by decide⟩
theorem ok31 (X : ExtRep) : EntryOK Tryd.prog X 31 s31 h31 := ⟨Tryd.func31, rfl, by decide, by decide⟩
theorem ok32 (X : ExtRep) : EntryOK Tryd.prog X 32 s32 h32 := ⟨Tryd.func32, rfl, by decide, by decide⟩
theorem ok33 (X : ExtRep) : EntryOK Tryd.prog X 33 s33 h33 := ⟨Tryd.func33, rfl, by decide, by decide⟩
theorem ok34 (X : ExtRep) : EntryOK Tryd.prog X 34 s34 h34 := ⟨Tryd.func34, rfl, by decide, by decide⟩
theorem ok37 (X : ExtRep) : EntryOK Tryd.prog X 37 s37 h37 := ⟨Tryd.func37, rfl, by decide, by decide⟩
theorem ok41 (X : ExtRep) : EntryOK Tryd.prog X 41 s41 h41 := ⟨Tryd.func41, rfl, by decide, by decide⟩
theorem ok42 (X : ExtRep) : EntryOK Tryd.prog X 42 s42 h42 := ⟨Tryd.func42, rfl, by decide, by decide⟩
theorem ok43 (X : ExtRep) : EntryOK Tryd.prog X 43 s43 h43 := ⟨Tryd.func43, rfl, by decide, by decide⟩
theorem ok44 (X : ExtRep) : EntryOK Tryd.prog X 44 s44 h44 := ⟨Tryd.func44, rfl, by decide, by decide⟩
theorem ok45 (X : ExtRep) : EntryOK Tryd.prog X 45 s45 h45 := ⟨Tryd.func45, rfl, by decide, by decide⟩
theorem ok46 (X : ExtRep) : EntryOK Tryd.prog X 46 s46 h46 := ⟨Tryd.func46, rfl, by decide, by decide⟩
theorem ok47 (X : ExtRep) : EntryOK Tryd.prog X 47 s47 h47 := ⟨Tryd.func47, rfl, by decide, by decide⟩
theorem ok48 (X : ExtRep) : EntryOK Tryd.prog X 48 s48 h48 := ⟨Tryd.func48, rfl, by decide, by decide⟩
theorem ok52 (X : ExtRep) : EntryOK Tryd.prog X 52 s52 h52 := ⟨Tryd.func52, rfl, by decide, by decide⟩
theorem ok58 (X : ExtRep) : EntryOK Tryd.prog X 58 s58 h58 := ⟨Tryd.func58, rfl, by decide, by decide⟩
theorem ok59 (X : ExtRep) : EntryOK Tryd.prog X 59 s59 h59 := ⟨Tryd.func59, rfl, by decide, by decide⟩
theorem ok60 (X : ExtRep) : EntryOK Tryd.prog X 60 s60 h60 := ⟨Tryd.func60, rfl, by decide, by decide⟩
-- tatting/tattinglaw30.LineWrites
def r5 (f9 : (Int × (Int × (Int × (Int × (Int × (Int × ((List Int) × (List Int)))))))) → Option (ByteArray × Int)) (f11 : Unit → Option (Bool)) (f14 : (Int × (Int × (Int × (Int × (Int × (Int × ((List Int) × (List Int)))))))) → Option (ByteArray × Int)) (a0 : (Int × (Int × (Int × (Int × (Int × (Int × ((List Int) × (List Int))))))))) : Option (Bool) :=
Option.bind (f11 ()) fun y1 =>
let v2 : Bool := !y1
bif v2 then
some false
else
let v3 : Int := (a0.2.2.2.2.2.2.1.length : Int)
let v4 : Bool := decide (v3 > (100 : Int))
bif v4 == false then
let v5 : Int := (a0.2.2.2.2.2.2.2.length : Int)
let v6 : Bool := decide (v5 > (100 : Int))
bif v6 then
some true
else
Option.bind (f9 a0) fun y7 =>
Option.bind (f14 a0) fun y8 =>
let v9 : Bool := strEq y7.1 y8.1
bif v9 == true then
let v10 : Bool := decide (y7.2 = y8.2)
some v10
else
some false
else
some true
-- tatting/line.Parse
def F8_0 (f15 : ByteArray → ByteArray → Option ((List ByteArray))) (f16 : ByteArray → Option (Int × Bool)) (f17 : Int → Option ((List Int))) (f18 : Int → ByteArray → (Int × (Int × (Int × (Int × (Int × (Int × ((List Int) × (List Int)))))))) → Option (Bool × (Int × (Int × (Int × (Int × (Int × (Int × ((List Int) × (List Int)))))))))) (self : (ByteArray × Int × (List ByteArray) × (List Int) × (List ByteArray) × Int × Int × (Int × (Int × (Int × (Int × (Int × (Int × ((List Int) × (List Int))))))))) → Option ((ByteArray × Int × (List ByteArray) × (List Int) × (List ByteArray) × Int × Int × (Int × (Int × (Int × (Int × (Int × (Int × ((List Int) × (List Int))))))))) ⊕ ((Int × (Int × (Int × (Int × (Int × (Int × ((List Int) × (List Int)))))))) × Int × Int))) (z15 : ByteArray × Int × (List ByteArray) × (List Int) × (List ByteArray) × Int × Int × (Int × (Int × (Int × (Int × (Int × (Int × ((List Int) × (List Int))))))))) : Option ((ByteArray × Int × (List ByteArray) × (List Int) × (List ByteArray) × Int × Int × (Int × (Int × (Int × (Int × (Int × (Int × ((List Int) × (List Int))))))))) ⊕ ((Int × (Int × (Int × (Int × (Int × (Int × ((List Int) × (List Int)))))))) × Int × Int)) :=
let v16 : Bool := decide (z15.2.2.2.2.2.2.1 < z15.2.2.2.2.2.1)
bif v16 then
if 0 ≤ z15.2.2.2.2.2.2.1 ∧ z15.2.2.2.2.2.2.1 < (z15.2.2.2.2.1.length : Int) then
let v17 : ByteArray := z15.2.2.2.2.1.getD z15.2.2.2.2.2.2.1.toNat ByteArray.empty
let v18 : Int := (z15.2.2.2.1.length : Int)
let v19 : Bool := decide (z15.2.2.2.2.2.2.1 ≥ v18)
bif v19 == false then
if 0 ≤ z15.2.2.2.2.2.2.1 ∧ z15.2.2.2.2.2.2.1 < (z15.2.2.2.1.length : Int) then
let v20 : Int := z15.2.2.2.1.getD z15.2.2.2.2.2.2.1.toNat (0 : Int)
Option.bind (f18 v20 v17 z15.2.2.2.2.2.2.2) fun y21 =>
let v22 : Bool := !y21.1
bif v22 then
let v23 : (Int × (Int × (Int × (Int × (Int × (Int × ((List Int) × (List Int)))))))) := ((0 : Int), ((0 : Int), ((0 : Int), ((0 : Int), ((0 : Int), ((0 : Int), (([] : List Int), ([] : List Int))))))))
some (.inr (v23, z15.2.1, (4 : Int)))
else
let v24 : Int := (v17.size : Int)
let v25 : Int := IntKind.wrap .i64 (v24 + (1 : Int))
let v26 : Int := IntKind.wrap .i64 (z15.2.1 + v25)
let v27 : Int := IntKind.wrap .i64 (z15.2.2.2.2.2.2.1 + (1 : Int))
self (z15.1, v26, z15.2.2.1, z15.2.2.2.1, z15.2.2.2.2.1, z15.2.2.2.2.2.1, v27, y21.2)
else none
else
let v28 : (Int × (Int × (Int × (Int × (Int × (Int × ((List Int) × (List Int)))))))) := ((0 : Int), ((0 : Int), ((0 : Int), ((0 : Int), ((0 : Int), ((0 : Int), (([] : List Int), ([] : List Int))))))))
some (.inr (v28, z15.2.1, (4 : Int)))
else none
else
some (.inl (z15.1, z15.2.1, z15.2.2.1, z15.2.2.2.1, z15.2.2.2.2.1, z15.2.2.2.2.2.1, z15.2.2.2.2.2.2.1, z15.2.2.2.2.2.2.2))
def r8 (f15 : ByteArray → ByteArray → Option ((List ByteArray))) (f16 : ByteArray → Option (Int × Bool)) (f17 : Int → Option ((List Int))) (f18 : Int → ByteArray → (Int × (Int × (Int × (Int × (Int × (Int × ((List Int) × (List Int)))))))) → Option (Bool × (Int × (Int × (Int × (Int × (Int × (Int × ((List Int) × (List Int)))))))))) (lp0 : (ByteArray × Int × (List ByteArray) × (List Int) × (List ByteArray) × Int × Int × (Int × (Int × (Int × (Int × (Int × (Int × ((List Int) × (List Int))))))))) → Option ((ByteArray × Int × (List ByteArray) × (List Int) × (List ByteArray) × Int × Int × (Int × (Int × (Int × (Int × (Int × (Int × ((List Int) × (List Int))))))))) ⊕ ((Int × (Int × (Int × (Int × (Int × (Int × ((List Int) × (List Int)))))))) × Int × Int))) (a0 : ByteArray) : Option ((Int × (Int × (Int × (Int × (Int × (Int × ((List Int) × (List Int)))))))) × Int × Int) :=
Option.bind (f15 a0 (⟨#[32]⟩ : ByteArray)) fun y1 =>
if 0 ≤ (0 : Int) ∧ (0 : Int) < (y1.length : Int) then
let v2 : ByteArray := y1.getD (0 : Int).toNat ByteArray.empty
Option.bind (f16 v2) fun y3 =>
let v4 : Bool := !y3.2
bif v4 then
let v5 : (Int × (Int × (Int × (Int × (Int × (Int × ((List Int) × (List Int)))))))) := ((0 : Int), ((0 : Int), ((0 : Int), ((0 : Int), ((0 : Int), ((0 : Int), (([] : List Int), ([] : List Int))))))))
some (v5, (0 : Int), (4 : Int))
else
let v6 : (Int × (Int × (Int × (Int × (Int × (Int × ((List Int) × (List Int)))))))) := (y3.1, ((0 : Int), ((0 : Int), ((0 : Int), ((0 : Int), ((0 : Int), ((0 : Int), (([] : List Int), ([] : List Int)))))))).2)
Option.bind (f17 y3.1) fun y7 =>
if 0 ≤ (0 : Int) ∧ (0 : Int) < (y1.length : Int) then
let v8 : ByteArray := y1.getD (0 : Int).toNat ByteArray.empty
let v9 : Int := (v8.size : Int)
let v10 : Int := IntKind.wrap .i64 (v9 + (1 : Int))
if 0 ≤ (1 : Int) ∧ (1 : Int) ≤ (y1.length : Int) ∧ (y1.length : Int) ≤ (y1.length : Int) then
let v11 : (List ByteArray) := cut y1 (1 : Int) (y1.length : Int)
let v12 : Int := (v11.length : Int)
Option.bind (lp0 (a0, v10, y1, y7, v11, v12, (0 : Int), v6)) fun s13 => onSum s13 (fun y14 =>
let v30 : Int := (y14.2.2.1.length : Int)
let v31 : Int := IntKind.wrap .i64 (v30 - (1 : Int))
let v32 : Int := (y14.2.2.2.1.length : Int)
let v33 : Bool := decide (v31 < v32)
bif v33 then
let v34 : (Int × (Int × (Int × (Int × (Int × (Int × ((List Int) × (List Int)))))))) := ((0 : Int), ((0 : Int), ((0 : Int), ((0 : Int), ((0 : Int), ((0 : Int), (([] : List Int), ([] : List Int))))))))
let v35 : Int := (y14.1.size : Int)
some (v34, v35, (4 : Int))
else
some (y14.2.2.2.2.2.2.2, (0 : Int), (0 : Int))) (fun o29 => some o29)
else none
else none
else none
-- tatting/line.Text
def F9_0 (f8 : ByteArray → Option ((Int × (Int × (Int × (Int × (Int × (Int × ((List Int) × (List Int)))))))) × Int × Int)) (f17 : Int → Option ((List Int))) (f19 : Int → Option (ByteArray)) (f20 : (Int × (Int × (Int × (Int × (Int × (Int × ((List Int) × (List Int)))))))) → Int → Option (ByteArray)) (f21 : (List ByteArray) → ByteArray → Option (ByteArray)) (f22 : (Int × (Int × (Int × (Int × (Int × (Int × ((List Int) × (List Int)))))))) → (Int × (Int × (Int × (Int × (Int × (Int × ((List Int) × (List Int)))))))) → Option (Bool)) (self : ((List Int) × Int × Int × (Int × (Int × (Int × (Int × (Int × (Int × ((List Int) × (List Int)))))))) × (List ByteArray)) → Option (((List Int) × Int × Int × (Int × (Int × (Int × (Int × (Int × (Int × ((List Int) × (List Int)))))))) × (List ByteArray)) ⊕ (ByteArray × Int))) (z7 : (List Int) × Int × Int × (Int × (Int × (Int × (Int × (Int × (Int × ((List Int) × (List Int)))))))) × (List ByteArray)) : Option (((List Int) × Int × Int × (Int × (Int × (Int × (Int × (Int × (Int × ((List Int) × (List Int)))))))) × (List ByteArray)) ⊕ (ByteArray × Int)) :=
let v8 : Bool := decide (z7.2.2.1 < z7.2.1)
bif v8 then
if 0 ≤ z7.2.2.1 ∧ z7.2.2.1 < (z7.1.length : Int) then
let v9 : Int := z7.1.getD z7.2.2.1.toNat (0 : Int)
Option.bind (f20 z7.2.2.2.1 v9) fun y10 =>
let v11 : (List ByteArray) := ([y10] : List ByteArray)
if (z7.2.2.2.2.length + v11.length) * 16 ≤ 140737488355328 ∧ z7.2.2.2.2.length + v11.length ≤ 140737488355328 then
let v12 : (List ByteArray) := z7.2.2.2.2 ++ v11
let v13 : Int := IntKind.wrap .i64 (z7.2.2.1 + (1 : Int))
self (z7.1, z7.2.1, v13, z7.2.2.2.1, v12)
else none
else none
else
some (.inl (z7.1, z7.2.1, z7.2.2.1, z7.2.2.2.1, z7.2.2.2.2))
def r9 (f8 : ByteArray → Option ((Int × (Int × (Int × (Int × (Int × (Int × ((List Int) × (List Int)))))))) × Int × Int)) (f17 : Int → Option ((List Int))) (f19 : Int → Option (ByteArray)) (f20 : (Int × (Int × (Int × (Int × (Int × (Int × ((List Int) × (List Int)))))))) → Int → Option (ByteArray)) (f21 : (List ByteArray) → ByteArray → Option (ByteArray)) (f22 : (Int × (Int × (Int × (Int × (Int × (Int × ((List Int) × (List Int)))))))) → (Int × (Int × (Int × (Int × (Int × (Int × ((List Int) × (List Int)))))))) → Option (Bool)) (lp0 : ((List Int) × Int × Int × (Int × (Int × (Int × (Int × (Int × (Int × ((List Int) × (List Int)))))))) × (List ByteArray)) → Option (((List Int) × Int × Int × (Int × (Int × (Int × (Int × (Int × (Int × ((List Int) × (List Int)))))))) × (List ByteArray)) ⊕ (ByteArray × Int))) (a0 : (Int × (Int × (Int × (Int × (Int × (Int × ((List Int) × (List Int))))))))) : Option (ByteArray × Int) :=
Option.bind (f19 a0.1) fun y1 =>
let v2 : (List ByteArray) := ([y1] : List ByteArray)
Option.bind (f17 a0.1) fun y3 =>
let v4 : Int := (y3.length : Int)
Option.bind (lp0 (y3, v4, (0 : Int), a0, v2)) fun s5 => onSum s5 (fun y6 =>
Option.bind (f21 y6.2.2.2.2 (⟨#[32]⟩ : ByteArray)) fun y15 =>
Option.bind (f8 y15) fun y16 =>
let v17 : Bool := !decide (y16.2.2 = (0 : Int))
bif v17 == false then
Option.bind (f22 y16.1 y6.2.2.2.1) fun y18 =>
let v19 : Bool := !y18
bif v19 then
some ((⟨#[]⟩ : ByteArray), (1 : Int))
else
some (y15, (0 : Int))
else
some ((⟨#[]⟩ : ByteArray), (1 : Int))) (fun o14 => some o14)
-- tatting/tattinglaw30.awake
def r11 (f8 : ByteArray → Option ((Int × (Int × (Int × (Int × (Int × (Int × ((List Int) × (List Int)))))))) × Int × Int)) (f9 : (Int × (Int × (Int × (Int × (Int × (Int × ((List Int) × (List Int)))))))) → Option (ByteArray × Int)) (_ : Unit) : Option (Bool) :=
Option.bind (f8 (⟨#[110, 101, 97, 114, 32, 98, 121, 116, 101, 115, 32, 50, 32, 54, 49, 54, 50, 32, 45]⟩ : ByteArray)) fun y1 =>
Option.bind (f8 (⟨#[110, 101, 97, 114, 32, 98, 121, 116, 101, 115, 32, 48, 50, 32, 45, 32, 45]⟩ : ByteArray)) fun y2 =>
let v3 : (List Int) := ([(1 : Int)] : List Int)
let v4 : (List Int) := ([(255 : Int)] : List Int)
let v5 : (Int × (Int × (Int × (Int × (Int × (Int × ((List Int) × (List Int)))))))) := ((4 : Int), ((0 : Int), ((0 : Int), ((0 : Int), ((0 : Int), ((0 : Int), (v3, v4)))))))
Option.bind (f9 v5) fun y6 =>
let v7 : Bool := decide (y1.2.2 = (0 : Int))
bif v7 == true then
let v8 : Bool := decide (y1.2.1 = (0 : Int))
bif v8 == true then
let v9 : Bool := decide (y1.1.1 = (3 : Int))
bif v9 == true then
let v10 : Bool := decide (y1.1.2.2.2.2.1 = (2 : Int))
bif v10 == true then
let v11 : ByteArray := bytesStr y1.1.2.2.2.2.2.2.1
let v12 : Bool := strEq v11 (⟨#[97, 98]⟩ : ByteArray)
bif v12 == true then
let v13 : Int := (y1.1.2.2.2.2.2.2.2.length : Int)
let v14 : Bool := decide (v13 = (0 : Int))
bif v14 == true then
let v15 : Bool := decide (y2.2.2 = (4 : Int))
bif v15 == true then
let v16 : Bool := decide (y2.2.1 = (11 : Int))
bif v16 == true then
let v17 : Bool := decide (y6.2 = (0 : Int))
bif v17 == true then
let v18 : Bool := strEq y6.1 (⟨#[97, 112, 112, 108, 121, 32, 48, 49, 32, 102, 102]⟩ : ByteArray)
some v18
else
some false
else
some false
else
some false
else
some false
else
some false
else
some false
else
some false
else
some false
else
some false
-- tatting/tattingref29.Parse
def F12_0 (f23 : ByteArray → Option ((List (ByteArray × Int)))) (f24 : ByteArray → Option (Int)) (f25 : Int → Option (ByteArray)) (f26 : (Int × (Int × (Int × (Int × (Int × (Int × ((List Int) × (List Int)))))))) → Int → ByteArray → Option ((Int × (Int × (Int × (Int × (Int × (Int × ((List Int) × (List Int)))))))) × Bool)) (self : (ByteArray × (List (ByteArray × Int)) × ByteArray × Int × (Int × (Int × (Int × (Int × (Int × (Int × ((List Int) × (List Int)))))))) × (Int × (Int × (Int × (Int × (Int × (Int × ((List Int) × (List Int))))))))) → Option ((ByteArray × (List (ByteArray × Int)) × ByteArray × Int × (Int × (Int × (Int × (Int × (Int × (Int × ((List Int) × (List Int)))))))) × (Int × (Int × (Int × (Int × (Int × (Int × ((List Int) × (List Int))))))))) ⊕ ((Int × (Int × (Int × (Int × (Int × (Int × ((List Int) × (List Int)))))))) × Int × Int))) (z10 : ByteArray × (List (ByteArray × Int)) × ByteArray × Int × (Int × (Int × (Int × (Int × (Int × (Int × ((List Int) × (List Int)))))))) × (Int × (Int × (Int × (Int × (Int × (Int × ((List Int) × (List Int))))))))) : Option ((ByteArray × (List (ByteArray × Int)) × ByteArray × Int × (Int × (Int × (Int × (Int × (Int × (Int × ((List Int) × (List Int)))))))) × (Int × (Int × (Int × (Int × (Int × (Int × ((List Int) × (List Int))))))))) ⊕ ((Int × (Int × (Int × (Int × (Int × (Int × ((List Int) × (List Int)))))))) × Int × Int)) :=
let v11 : Int := (z10.2.1.length : Int)
let v12 : Bool := decide (z10.2.2.2.1 < v11)
bif v12 then
let v13 : Int := (z10.2.2.1.size : Int)
let v14 : Bool := decide (z10.2.2.2.1 > v13)
bif v14 then
let v15 : (Int × (Int × (Int × (Int × (Int × (Int × ((List Int) × (List Int)))))))) := ((0 : Int), ((0 : Int), ((0 : Int), ((0 : Int), ((0 : Int), ((0 : Int), (([] : List Int), ([] : List Int))))))))
if 0 ≤ z10.2.2.2.1 ∧ z10.2.2.2.1 < (z10.2.1.length : Int) then
let v16 : (ByteArray × Int) := z10.2.1.getD z10.2.2.2.1.toNat (ByteArray.empty, (0 : Int))
some (.inr (v15, v16.2, (4 : Int)))
else none
else
let v17 : Int := IntKind.wrap .i64 (z10.2.2.2.1 - (1 : Int))
if 0 ≤ v17 ∧ v17 < (z10.2.2.1.size : Int) then
let v18 : Int := byteAt z10.2.2.1 v17
if 0 ≤ z10.2.2.2.1 ∧ z10.2.2.2.1 < (z10.2.1.length : Int) then
let v19 : (ByteArray × Int) := z10.2.1.getD z10.2.2.2.1.toNat (ByteArray.empty, (0 : Int))
Option.bind (f26 z10.2.2.2.2.2 v18 v19.1) fun y20 =>
let v21 : Bool := !y20.2
bif v21 then
let v22 : (Int × (Int × (Int × (Int × (Int × (Int × ((List Int) × (List Int)))))))) := ((0 : Int), ((0 : Int), ((0 : Int), ((0 : Int), ((0 : Int), ((0 : Int), (([] : List Int), ([] : List Int))))))))
if 0 ≤ z10.2.2.2.1 ∧ z10.2.2.2.1 < (z10.2.1.length : Int) then
let v23 : (ByteArray × Int) := z10.2.1.getD z10.2.2.2.1.toNat (ByteArray.empty, (0 : Int))
some (.inr (v22, v23.2, (4 : Int)))
else none
else
let v24 : Int := IntKind.wrap .i64 (z10.2.2.2.1 + (1 : Int))
self (z10.1, z10.2.1, z10.2.2.1, v24, z10.2.2.2.2.1, y20.1)
else none
else none
else
some (.inl (z10.1, z10.2.1, z10.2.2.1, z10.2.2.2.1, z10.2.2.2.2.1, z10.2.2.2.2.2))
def r12 (f23 : ByteArray → Option ((List (ByteArray × Int)))) (f24 : ByteArray → Option (Int)) (f25 : Int → Option (ByteArray)) (f26 : (Int × (Int × (Int × (Int × (Int × (Int × ((List Int) × (List Int)))))))) → Int → ByteArray → Option ((Int × (Int × (Int × (Int × (Int × (Int × ((List Int) × (List Int)))))))) × Bool)) (lp0 : (ByteArray × (List (ByteArray × Int)) × ByteArray × Int × (Int × (Int × (Int × (Int × (Int × (Int × ((List Int) × (List Int)))))))) × (Int × (Int × (Int × (Int × (Int × (Int × ((List Int) × (List Int))))))))) → Option ((ByteArray × (List (ByteArray × Int)) × ByteArray × Int × (Int × (Int × (Int × (Int × (Int × (Int × ((List Int) × (List Int)))))))) × (Int × (Int × (Int × (Int × (Int × (Int × ((List Int) × (List Int))))))))) ⊕ ((Int × (Int × (Int × (Int × (Int × (Int × ((List Int) × (List Int)))))))) × Int × Int))) (a0 : ByteArray) : Option ((Int × (Int × (Int × (Int × (Int × (Int × ((List Int) × (List Int)))))))) × Int × Int) :=
Option.bind (f23 a0) fun y1 =>
if 0 ≤ (0 : Int) ∧ (0 : Int) < (y1.length : Int) then
let v2 : (ByteArray × Int) := y1.getD (0 : Int).toNat (ByteArray.empty, (0 : Int))
Option.bind (f24 v2.1) fun y3 =>
let v4 : (Int × (Int × (Int × (Int × (Int × (Int × ((List Int) × (List Int)))))))) := (y3, ((0 : Int), ((0 : Int), ((0 : Int), ((0 : Int), ((0 : Int), (([] : List Int), ([] : List Int))))))))
let v5 : Bool := decide (v4.1 = (0 : Int))
bif v5 then
let v6 : (Int × (Int × (Int × (Int × (Int × (Int × ((List Int) × (List Int)))))))) := ((0 : Int), ((0 : Int), ((0 : Int), ((0 : Int), ((0 : Int), ((0 : Int), (([] : List Int), ([] : List Int))))))))
some (v6, (0 : Int), (4 : Int))
else
Option.bind (f25 v4.1) fun y7 =>
Option.bind (lp0 (a0, y1, y7, (1 : Int), ((0 : Int), ((0 : Int), ((0 : Int), ((0 : Int), ((0 : Int), ((0 : Int), (([] : List Int), ([] : List Int)))))))), v4)) fun s8 => onSum s8 (fun y9 =>
let v26 : Int := (y9.2.1.length : Int)
let v27 : Int := (y9.2.2.1.size : Int)
let v28 : Bool := decide (v26 ≤ v27)
bif v28 then
let v29 : (Int × (Int × (Int × (Int × (Int × (Int × ((List Int) × (List Int)))))))) := ((0 : Int), ((0 : Int), ((0 : Int), ((0 : Int), ((0 : Int), ((0 : Int), (([] : List Int), ([] : List Int))))))))
let v30 : Int := (y9.1.size : Int)
some (v29, v30, (4 : Int))
else
some (y9.2.2.2.2.2, (0 : Int), (0 : Int))) (fun o25 => some o25)
else none
-- tatting/tattingref29.SameCmd
def r13 (a0 : (Int × (Int × (Int × (Int × (Int × (Int × ((List Int) × (List Int))))))))) (a1 : (Int × (Int × (Int × (Int × (Int × (Int × ((List Int) × (List Int))))))))) : Option (Bool) :=
let v1 : Bool := decide (a0.1 = a1.1)
bif v1 == true then
let v2 : Bool := decide (a0.2.1 = a1.2.1)
bif v2 == true then
let v3 : Bool := decide (a0.2.2.1 = a1.2.2.1)
bif v3 == true then
let v4 : Bool := decide (a0.2.2.2.1 = a1.2.2.2.1)
bif v4 == true then
let v5 : Bool := decide (a0.2.2.2.2.1 = a1.2.2.2.2.1)
bif v5 == true then
let v6 : Bool := decide (a0.2.2.2.2.2.1 = a1.2.2.2.2.2.1)
bif v6 == true then
let v7 : ByteArray := bytesStr a0.2.2.2.2.2.2.1
let v8 : ByteArray := bytesStr a1.2.2.2.2.2.2.1
let v9 : Bool := strEq v7 v8
bif v9 == true then
let v10 : ByteArray := bytesStr a0.2.2.2.2.2.2.2
let v11 : ByteArray := bytesStr a1.2.2.2.2.2.2.2
let v12 : Bool := strEq v10 v11
some v12
else
some false
else
some false
else
some false
else
some false
else
some false
else
some false
else
some false
-- tatting/tattingref29.Text
def F14_0 (f12 : ByteArray → Option ((Int × (Int × (Int × (Int × (Int × (Int × ((List Int) × (List Int)))))))) × Int × Int)) (f13 : (Int × (Int × (Int × (Int × (Int × (Int × ((List Int) × (List Int)))))))) → (Int × (Int × (Int × (Int × (Int × (Int × ((List Int) × (List Int)))))))) → Option (Bool)) (f25 : Int → Option (ByteArray)) (f27 : (Int × (Int × (Int × (Int × (Int × (Int × ((List Int) × (List Int)))))))) → Int → Option (ByteArray)) (self : (ByteArray × ByteArray × Int × (Int × (Int × (Int × (Int × (Int × (Int × ((List Int) × (List Int))))))))) → Option ((ByteArray × ByteArray × Int × (Int × (Int × (Int × (Int × (Int × (Int × ((List Int) × (List Int))))))))) ⊕ (ByteArray × Int))) (z9 : ByteArray × ByteArray × Int × (Int × (Int × (Int × (Int × (Int × (Int × ((List Int) × (List Int))))))))) : Option ((ByteArray × ByteArray × Int × (Int × (Int × (Int × (Int × (Int × (Int × ((List Int) × (List Int))))))))) ⊕ (ByteArray × Int)) :=
let v10 : Int := (z9.2.1.size : Int)
let v11 : Bool := decide (z9.2.2.1 < v10)
bif v11 then
if z9.1.size + (⟨#[32]⟩ : ByteArray).size ≤ 140737488355328 then
let v12 : ByteArray := z9.1 ++ (⟨#[32]⟩ : ByteArray)
if 0 ≤ z9.2.2.1 ∧ z9.2.2.1 < (z9.2.1.size : Int) then
let v13 : Int := byteAt z9.2.1 z9.2.2.1
Option.bind (f27 z9.2.2.2 v13) fun y14 =>
if v12.size + y14.size ≤ 140737488355328 then
let v15 : ByteArray := v12 ++ y14
let v16 : Int := IntKind.wrap .i64 (z9.2.2.1 + (1 : Int))
self (v15, z9.2.1, v16, z9.2.2.2)
else none
else none
else none
else
some (.inl (z9.1, z9.2.1, z9.2.2.1, z9.2.2.2))
def r14 (f12 : ByteArray → Option ((Int × (Int × (Int × (Int × (Int × (Int × ((List Int) × (List Int)))))))) × Int × Int)) (f13 : (Int × (Int × (Int × (Int × (Int × (Int × ((List Int) × (List Int)))))))) → (Int × (Int × (Int × (Int × (Int × (Int × ((List Int) × (List Int)))))))) → Option (Bool)) (f25 : Int → Option (ByteArray)) (f27 : (Int × (Int × (Int × (Int × (Int × (Int × ((List Int) × (List Int)))))))) → Int → Option (ByteArray)) (lp0 : (ByteArray × ByteArray × Int × (Int × (Int × (Int × (Int × (Int × (Int × ((List Int) × (List Int))))))))) → Option ((ByteArray × ByteArray × Int × (Int × (Int × (Int × (Int × (Int × (Int × ((List Int) × (List Int))))))))) ⊕ (ByteArray × Int))) (a0 : (Int × (Int × (Int × (Int × (Int × (Int × ((List Int) × (List Int))))))))) : Option (ByteArray × Int) :=
let v1 : Bool := decide (a0.1 < (1 : Int))
bif v1 == false then
let v2 : Bool := decide (a0.1 > (5 : Int))
bif v2 then
some ((⟨#[]⟩ : ByteArray), (1 : Int))
else
let v3 : (List ByteArray) := ([(⟨#[100, 105, 102, 102]⟩ : ByteArray), (⟨#[115, 116, 101, 112, 115]⟩ : ByteArray), (⟨#[110, 101, 97, 114]⟩ : ByteArray), (⟨#[97, 112, 112, 108, 121]⟩ : ByteArray), (⟨#[117, 110, 100, 111]⟩ : ByteArray)] : List ByteArray)
let v4 : Int := IntKind.wrap .i64 (a0.1 - (1 : Int))
if 0 ≤ v4 ∧ v4 < (v3.length : Int) then
let v5 : ByteArray := (v3.getD v4.toNat ByteArray.empty)
Option.bind (f25 a0.1) fun y6 =>
Option.bind (lp0 (v5, y6, (0 : Int), a0)) fun s7 => onSum s7 (fun y8 =>
Option.bind (f12 y8.1) fun y18 =>
let v19 : Bool := !decide (y18.2.2 = (0 : Int))
bif v19 == false then
Option.bind (f13 y18.1 y8.2.2.2) fun y20 =>
let v21 : Bool := !y20
bif v21 then
some ((⟨#[]⟩ : ByteArray), (1 : Int))
else
some (y8.1, (0 : Int))
else
some ((⟨#[]⟩ : ByteArray), (1 : Int))) (fun o17 => some o17)
else none
else
some ((⟨#[]⟩ : ByteArray), (1 : Int))
-- tatting/line.kind
def F16_0 (f19 : Int → Option (ByteArray)) (self : (ByteArray × Int) → Option ((ByteArray × Int) ⊕ (Int × Bool))) (z3 : ByteArray × Int) : Option ((ByteArray × Int) ⊕ (Int × Bool)) :=
let v4 : Bool := decide (z3.2 ≤ (5 : Int))
bif v4 then
Option.bind (f19 z3.2) fun y5 =>
let v6 : Bool := strEq y5 z3.1
bif v6 then
some (.inr (z3.2, true))
else
let v7 : Int := IntKind.wrap .i64 (z3.2 + (1 : Int))
self (z3.1, v7)
else
some (.inl (z3.1, z3.2))
def r16 (f19 : Int → Option (ByteArray)) (lp0 : (ByteArray × Int) → Option ((ByteArray × Int) ⊕ (Int × Bool))) (a0 : ByteArray) : Option (Int × Bool) :=
Option.bind (lp0 (a0, (1 : Int))) fun s1 => onSum s1 (fun y2 =>
some ((0 : Int), false)) (fun o8 => some o8)
-- tatting/line.form
def r17 (a0 : Int) : Option ((List Int)) :=
let v1 : Bool := decide (a0 = (1 : Int))
bif v1 then
bif v1 then
let v2 : (List Int) := ([(0 : Int), (1 : Int), (2 : Int), (3 : Int), (5 : Int), (6 : Int)] : List Int)
some v2
else
let v3 : Bool := decide (a0 = (3 : Int))
bif v3 then
let v4 : (List Int) := ([(0 : Int), (4 : Int), (5 : Int), (6 : Int)] : List Int)
some v4
else
let v5 : (List Int) := ([(5 : Int), (6 : Int)] : List Int)
some v5
else
let v6 : Bool := decide (a0 = (2 : Int))
bif v6 then
let v7 : (List Int) := ([(0 : Int), (1 : Int), (2 : Int), (3 : Int), (5 : Int), (6 : Int)] : List Int)
some v7
else
let v8 : Bool := decide (a0 = (3 : Int))
bif v8 then
let v9 : (List Int) := ([(0 : Int), (4 : Int), (5 : Int), (6 : Int)] : List Int)
some v9
else
let v10 : (List Int) := ([(5 : Int), (6 : Int)] : List Int)
some v10
-- tatting/line.take
def r18 (f29 : ByteArray → Option (Int × Bool)) (f30 : ByteArray → Option (Int × Bool)) (f31 : ByteArray → Option (Int × Bool)) (f32 : ByteArray → Option ((List Int) × Bool)) (a0 : Int) (a1 : ByteArray) (a2 : (Int × (Int × (Int × (Int × (Int × (Int × ((List Int) × (List Int))))))))) : Option (Bool × (Int × (Int × (Int × (Int × (Int × (Int × ((List Int) × (List Int))))))))) :=
let v1 : Bool := decide (a0 = (0 : Int))
bif v1 then
Option.bind (f29 a1) fun y2 =>
let v3 : (Int × (Int × (Int × (Int × (Int × (Int × ((List Int) × (List Int)))))))) := (a2.1, (y2.1, a2.2.2))
some (y2.2, v3)
else
let v4 : Bool := decide (a0 = (1 : Int))
bif v4 then
Option.bind (f30 a1) fun y5 =>
let v6 : (Int × (Int × (Int × (Int × (Int × (Int × ((List Int) × (List Int)))))))) := (a2.1, (a2.2.1, (y5.1, a2.2.2.2)))
some (y5.2, v6)
else
let v7 : Bool := decide (a0 = (2 : Int))
bif v7 then
Option.bind (f31 a1) fun y8 =>
let v9 : (Int × (Int × (Int × (Int × (Int × (Int × ((List Int) × (List Int)))))))) := (a2.1, (a2.2.1, (a2.2.2.1, (y8.1, a2.2.2.2.2))))
some (y8.2, v9)
else
let v10 : Bool := decide (a0 = (3 : Int))
bif v10 then
Option.bind (f31 a1) fun y11 =>
let v12 : (Int × (Int × (Int × (Int × (Int × (Int × ((List Int) × (List Int)))))))) := (a2.1, (a2.2.1, (a2.2.2.1, (a2.2.2.2.1, (a2.2.2.2.2.1, (y11.1, a2.2.2.2.2.2.2))))))
some (y11.2, v12)
else
let v13 : Bool := decide (a0 = (4 : Int))
bif v13 then
Option.bind (f31 a1) fun y14 =>
let v15 : (Int × (Int × (Int × (Int × (Int × (Int × ((List Int) × (List Int)))))))) := (a2.1, (a2.2.1, (a2.2.2.1, (a2.2.2.2.1, (y14.1, a2.2.2.2.2.2)))))
some (y14.2, v15)
else
let v16 : Bool := decide (a0 = (5 : Int))
bif v16 then
Option.bind (f32 a1) fun y17 =>
let v18 : (Int × (Int × (Int × (Int × (Int × (Int × ((List Int) × (List Int)))))))) := (a2.1, (a2.2.1, (a2.2.2.1, (a2.2.2.2.1, (a2.2.2.2.2.1, (a2.2.2.2.2.2.1, (y17.1, a2.2.2.2.2.2.2.2)))))))
some (y17.2, v18)
else
Option.bind (f32 a1) fun y19 =>
let v20 : (Int × (Int × (Int × (Int × (Int × (Int × ((List Int) × (List Int)))))))) := (a2.1, (a2.2.1, (a2.2.2.1, (a2.2.2.2.1, (a2.2.2.2.2.1, (a2.2.2.2.2.2.1, (a2.2.2.2.2.2.2.1, y19.1)))))))
some (y19.2, v20)
-- tatting/line.name
def r19 (a0 : Int) : Option (ByteArray) :=
let v1 : Bool := decide (a0 = (1 : Int))
bif v1 then
some (⟨#[100, 105, 102, 102]⟩ : ByteArray)
else
let v2 : Bool := decide (a0 = (2 : Int))
bif v2 then
some (⟨#[115, 116, 101, 112, 115]⟩ : ByteArray)
else
let v3 : Bool := decide (a0 = (3 : Int))
bif v3 then
some (⟨#[110, 101, 97, 114]⟩ : ByteArray)
else
let v4 : Bool := decide (a0 = (4 : Int))
bif v4 then
some (⟨#[97, 112, 112, 108, 121]⟩ : ByteArray)
else
let v5 : Bool := decide (a0 = (5 : Int))
bif v5 then
some (⟨#[117, 110, 100, 111]⟩ : ByteArray)
else
some (⟨#[]⟩ : ByteArray)
-- tatting/line.word
def r20 (f33 : Int → Option (ByteArray)) (f34 : Int → Option (ByteArray)) (f35 : Int → Option (ByteArray)) (f36 : Int → Int → Option (ByteArray)) (f37 : (List Int) → Option (ByteArray)) (a0 : (Int × (Int × (Int × (Int × (Int × (Int × ((List Int) × (List Int))))))))) (a1 : Int) : Option (ByteArray) :=
let v1 : Bool := decide (a1 = (0 : Int))
bif v1 then
Option.bind (f33 a0.2.1) fun y2 =>
some y2
else
let v3 : Bool := decide (a1 = (1 : Int))
bif v3 then
let v4 : Bool := decide (a0.2.2.1 = (0 : Int))
bif v4 then
some (⟨#[97, 110, 121]⟩ : ByteArray)
else
Option.bind (f34 a0.2.2.1) fun y5 =>
some y5
else
let v6 : Bool := decide (a1 = (2 : Int))
bif v6 then
Option.bind (f35 a0.2.2.2.1) fun y7 =>
some y7
else
let v8 : Bool := decide (a1 = (3 : Int))
bif v8 then
Option.bind (f36 a0.2.2.2.2.2.1 (10 : Int)) fun y9 =>
some y9
else
let v10 : Bool := decide (a1 = (4 : Int))
bif v10 then
Option.bind (f35 a0.2.2.2.2.1) fun y11 =>
some y11
else
let v12 : Bool := decide (a1 = (5 : Int))
bif v12 then
Option.bind (f37 a0.2.2.2.2.2.2.1) fun y13 =>
some y13
else
Option.bind (f37 a0.2.2.2.2.2.2.2) fun y14 =>
some y14
-- tatting/line.same
def r22 (a0 : (Int × (Int × (Int × (Int × (Int × (Int × ((List Int) × (List Int))))))))) (a1 : (Int × (Int × (Int × (Int × (Int × (Int × ((List Int) × (List Int))))))))) : Option (Bool) :=
let v1 : Bool := decide (a0.1 = a1.1)
bif v1 == true then
let v2 : Bool := decide (a0.2.1 = a1.2.1)
bif v2 == true then
let v3 : Bool := decide (a0.2.2.1 = a1.2.2.1)
bif v3 == true then
let v4 : Bool := decide (a0.2.2.2.1 = a1.2.2.2.1)
bif v4 == true then
let v5 : Bool := decide (a0.2.2.2.2.1 = a1.2.2.2.2.1)
bif v5 == true then
let v6 : Bool := decide (a0.2.2.2.2.2.1 = a1.2.2.2.2.2.1)
bif v6 == true then
let v7 : ByteArray := bytesStr a0.2.2.2.2.2.2.1
let v8 : ByteArray := bytesStr a1.2.2.2.2.2.2.1
let v9 : Bool := strEq v7 v8
bif v9 == true then
let v10 : ByteArray := bytesStr a0.2.2.2.2.2.2.2
let v11 : ByteArray := bytesStr a1.2.2.2.2.2.2.2
let v12 : Bool := strEq v10 v11
some v12
else
some false
else
some false
else
some false
else
some false
else
some false
else
some false
else
some false
-- tatting/tattingref29.words
def F23_0 (self : (ByteArray × Int × Int × (List (ByteArray × Int))) → Option ((ByteArray × Int × Int × (List (ByteArray × Int))) ⊕ ((List (ByteArray × Int))))) (z3 : ByteArray × Int × Int × (List (ByteArray × Int))) : Option ((ByteArray × Int × Int × (List (ByteArray × Int))) ⊕ ((List (ByteArray × Int)))) :=
let v4 : Int := (z3.1.size : Int)
let v5 : Bool := decide (z3.2.2.1 ≤ v4)
bif v5 then
let v6 : Int := (z3.1.size : Int)
let v7 : Bool := decide (z3.2.2.1 = v6)
bif v7 == false then
if 0 ≤ z3.2.2.1 ∧ z3.2.2.1 < (z3.1.size : Int) then
let v8 : Int := byteAt z3.1 z3.2.2.1
let v9 : Bool := decide (v8 = (32 : Int))
bif v9 then
if 0 ≤ z3.2.1 ∧ z3.2.1 ≤ z3.2.2.1 ∧ z3.2.2.1 ≤ (z3.1.size : Int) then
let v10 : ByteArray := z3.1.extract z3.2.1.toNat z3.2.2.1.toNat
let v11 : (ByteArray × Int) := (v10, z3.2.1)
let v12 : (List (ByteArray × Int)) := ([v11] : List (ByteArray × Int))
if (z3.2.2.2.length + v12.length) * 24 ≤ 140737488355328 ∧ z3.2.2.2.length + v12.length ≤ 140737488355328 then
let v13 : (List (ByteArray × Int)) := z3.2.2.2 ++ v12
let v14 : Int := IntKind.wrap .i64 (z3.2.2.1 + (1 : Int))
let v15 : Int := IntKind.wrap .i64 (z3.2.2.1 + (1 : Int))
self (z3.1, v14, v15, v13)
else none
else none
else
let v16 : Int := IntKind.wrap .i64 (z3.2.2.1 + (1 : Int))
self (z3.1, z3.2.1, v16, z3.2.2.2)
else none
else
if 0 ≤ z3.2.1 ∧ z3.2.1 ≤ z3.2.2.1 ∧ z3.2.2.1 ≤ (z3.1.size : Int) then
let v17 : ByteArray := z3.1.extract z3.2.1.toNat z3.2.2.1.toNat
let v18 : (ByteArray × Int) := (v17, z3.2.1)
let v19 : (List (ByteArray × Int)) := ([v18] : List (ByteArray × Int))
if (z3.2.2.2.length + v19.length) * 24 ≤ 140737488355328 ∧ z3.2.2.2.length + v19.length ≤ 140737488355328 then
let v20 : (List (ByteArray × Int)) := z3.2.2.2 ++ v19
let v21 : Int := IntKind.wrap .i64 (z3.2.2.1 + (1 : Int))
let v22 : Int := IntKind.wrap .i64 (z3.2.2.1 + (1 : Int))
self (z3.1, v21, v22, v20)
else none
else none
else
some (.inl (z3.1, z3.2.1, z3.2.2.1, z3.2.2.2))
def r23 (lp0 : (ByteArray × Int × Int × (List (ByteArray × Int))) → Option ((ByteArray × Int × Int × (List (ByteArray × Int))) ⊕ ((List (ByteArray × Int))))) (a0 : ByteArray) : Option ((List (ByteArray × Int))) :=
Option.bind (lp0 (a0, (0 : Int), (0 : Int), ([] : List (ByteArray × Int)))) fun s1 => onSum s1 (fun y2 =>
some y2.2.2.2) (fun o23 => some o23)
-- tatting/tattingref29.kind
def F24_0 (self : (ByteArray × (List ByteArray) × Int) → Option ((ByteArray × (List ByteArray) × Int) ⊕ (Int))) (z4 : ByteArray × (List ByteArray) × Int) : Option ((ByteArray × (List ByteArray) × Int) ⊕ (Int)) :=
let v5 : Int := (z4.2.1.length : Int)
let v6 : Bool := decide (z4.2.2 < v5)
bif v6 then
if 0 ≤ z4.2.2 ∧ z4.2.2 < (z4.2.1.length : Int) then
let v7 : ByteArray := z4.2.1.getD z4.2.2.toNat ByteArray.empty
let v8 : Bool := strEq v7 z4.1
bif v8 then
let v9 : Int := IntKind.wrap .i64 (z4.2.2 + (1 : Int))
some (.inr v9)
else
let v10 : Int := IntKind.wrap .i64 (z4.2.2 + (1 : Int))
self (z4.1, z4.2.1, v10)
else none
else
some (.inl (z4.1, z4.2.1, z4.2.2))
def r24 (lp0 : (ByteArray × (List ByteArray) × Int) → Option ((ByteArray × (List ByteArray) × Int) ⊕ (Int))) (a0 : ByteArray) : Option (Int) :=
let v1 : (List ByteArray) := ([(⟨#[100, 105, 102, 102]⟩ : ByteArray), (⟨#[115, 116, 101, 112, 115]⟩ : ByteArray), (⟨#[110, 101, 97, 114]⟩ : ByteArray), (⟨#[97, 112, 112, 108, 121]⟩ : ByteArray), (⟨#[117, 110, 100, 111]⟩ : ByteArray)] : List ByteArray)
Option.bind (lp0 (a0, v1, (0 : Int))) fun s2 => onSum s2 (fun y3 =>
some (0 : Int)) (fun o11 => some o11)
-- tatting/tattingref29.fields
def r25 (a0 : Int) : Option (ByteArray) :=
let v1 : (List ByteArray) := ([(⟨#[]⟩ : ByteArray), (⟨#[109, 101, 116, 119, 97, 98]⟩ : ByteArray), (⟨#[109, 101, 116, 119, 97, 98]⟩ : ByteArray), (⟨#[109, 107, 97, 98]⟩ : ByteArray), (⟨#[97, 98]⟩ : ByteArray), (⟨#[97, 98]⟩ : ByteArray)] : List ByteArray)
if 0 ≤ a0 ∧ a0 < (v1.length : Int) then
let v2 : ByteArray := (v1.getD a0.toNat ByteArray.empty)
some v2
else none
-- tatting/tattingref29.field
def r26 (f41 : ByteArray → Option (Int)) (f42 : ByteArray → Option (Int × Bool)) (f43 : ByteArray → Option (Int × Bool)) (f44 : ByteArray → Option ((List Int) × Bool)) (a0 : (Int × (Int × (Int × (Int × (Int × (Int × ((List Int) × (List Int))))))))) (a1 : Int) (a2 : ByteArray) : Option ((Int × (Int × (Int × (Int × (Int × (Int × ((List Int) × (List Int)))))))) × Bool) :=
Option.bind (f41 a2) fun y1 =>
let v2 : Bool := decide (y1 ≥ (0 : Int))
let v3 : Bool := decide (a1 = (109 : Int))
bif v3 then
Option.bind (f42 a2) fun y4 =>
let v5 : (Int × (Int × (Int × (Int × (Int × (Int × ((List Int) × (List Int)))))))) := (a0.1, (y4.1, a0.2.2))
some (v5, y4.2)
else
let v6 : Bool := decide (a1 = (101 : Int))
bif v6 then
Option.bind (f43 a2) fun y7 =>
let v8 : (Int × (Int × (Int × (Int × (Int × (Int × ((List Int) × (List Int)))))))) := (a0.1, (a0.2.1, (y7.1, a0.2.2.2)))
bif y7.2 == false then
let v9 : Bool := strEq a2 (⟨#[97, 110, 121]⟩ : ByteArray)
some (v8, v9)
else
some (v8, true)
else
let v10 : Bool := decide (a1 = (116 : Int))
bif v10 then
let v11 : (Int × (Int × (Int × (Int × (Int × (Int × ((List Int) × (List Int)))))))) := (a0.1, (a0.2.1, (a0.2.2.1, (y1, a0.2.2.2.2))))
some (v11, v2)
else
let v12 : Bool := decide (a1 = (119 : Int))
bif v12 then
let v13 : (Int × (Int × (Int × (Int × (Int × (Int × ((List Int) × (List Int)))))))) := (a0.1, (a0.2.1, (a0.2.2.1, (a0.2.2.2.1, (a0.2.2.2.2.1, (y1, a0.2.2.2.2.2.2))))))
some (v13, v2)
else
let v14 : Bool := decide (a1 = (107 : Int))
bif v14 then
let v15 : (Int × (Int × (Int × (Int × (Int × (Int × ((List Int) × (List Int)))))))) := (a0.1, (a0.2.1, (a0.2.2.1, (a0.2.2.2.1, (y1, a0.2.2.2.2.2)))))
some (v15, v2)
else
let v16 : Bool := decide (a1 = (97 : Int))
bif v16 then
Option.bind (f44 a2) fun y17 =>
let v18 : (Int × (Int × (Int × (Int × (Int × (Int × ((List Int) × (List Int)))))))) := (a0.1, (a0.2.1, (a0.2.2.1, (a0.2.2.2.1, (a0.2.2.2.2.1, (a0.2.2.2.2.2.1, (y17.1, a0.2.2.2.2.2.2.2)))))))
some (v18, y17.2)
else
Option.bind (f44 a2) fun y19 =>
let v20 : (Int × (Int × (Int × (Int × (Int × (Int × ((List Int) × (List Int)))))))) := (a0.1, (a0.2.1, (a0.2.2.1, (a0.2.2.2.1, (a0.2.2.2.2.1, (a0.2.2.2.2.2.1, (a0.2.2.2.2.2.2.1, y19.1)))))))
some (v20, y19.2)
-- tatting/tattingref29.said
def r27 (f45 : Int → Option (ByteArray)) (f46 : Int → Option (ByteArray)) (f47 : Int → Option (ByteArray)) (f48 : (List Int) → Option (ByteArray)) (a0 : (Int × (Int × (Int × (Int × (Int × (Int × ((List Int) × (List Int))))))))) (a1 : Int) : Option (ByteArray) :=
let v1 : Bool := decide (a1 = (109 : Int))
bif v1 then
Option.bind (f45 a0.2.1) fun y2 =>
some y2
else
let v3 : Bool := decide (a1 = (101 : Int))
bif v3 then
let v4 : Bool := decide (a0.2.2.1 = (0 : Int))
bif v4 then
some (⟨#[97, 110, 121]⟩ : ByteArray)
else
Option.bind (f46 a0.2.2.1) fun y5 =>
some y5
else
let v6 : Bool := decide (a1 = (116 : Int))
bif v6 then
Option.bind (f47 a0.2.2.2.1) fun y7 =>
some y7
else
let v8 : Bool := decide (a1 = (119 : Int))
bif v8 then
Option.bind (f47 a0.2.2.2.2.2.1) fun y9 =>
some y9
else
let v10 : Bool := decide (a1 = (107 : Int))
bif v10 then
Option.bind (f47 a0.2.2.2.2.1) fun y11 =>
some y11
else
let v12 : Bool := decide (a1 = (97 : Int))
bif v12 then
Option.bind (f48 a0.2.2.2.2.2.2.1) fun y13 =>
some y13
else
Option.bind (f48 a0.2.2.2.2.2.2.2) fun y14 =>
some y14
-- tatting/tok.Mode
def r29 (a0 : ByteArray) : Option (Int × Bool) :=
let v1 : Bool := strEq a0 (⟨#[98, 121, 116, 101, 115]⟩ : ByteArray)
bif v1 then
some ((0 : Int), true)
else
let v2 : Bool := strEq a0 (⟨#[108, 105, 110, 101, 115]⟩ : ByteArray)
bif v2 then
some ((1 : Int), true)
else
some ((0 : Int), false)
-- tatting/line.engine
def r30 (f52 : ByteArray → Option (Int × Bool)) (a0 : ByteArray) : Option (Int × Bool) :=
let v1 : Bool := strEq a0 (⟨#[97, 110, 121]⟩ : ByteArray)
bif v1 then
some ((0 : Int), true)
else
Option.bind (f52 a0) fun y2 =>
some (y2.1, y2.2)
-- tatting/line.number
def F31_0 (self : (Int × (List Int) × Int × Int) → Option ((Int × (List Int) × Int × Int) ⊕ (Int × Bool))) (z9 : Int × (List Int) × Int × Int) : Option ((Int × (List Int) × Int × Int) ⊕ (Int × Bool)) :=
let v10 : Bool := decide (z9.2.2.2 < z9.2.2.1)
bif v10 then
if 0 ≤ z9.2.2.2 ∧ z9.2.2.2 < (z9.2.1.length : Int) then
let v11 : Int := z9.2.1.getD z9.2.2.2.toNat (0 : Int)
let v12 : Bool := decide (v11 < (48 : Int))
bif v12 == false then
let v13 : Bool := decide (v11 > (57 : Int))
bif v13 then
some (.inr ((0 : Int), false))
else
let v14 : Int := IntKind.wrap .i64 ((10 : Int) * z9.1)
let v15 : Int := IntKind.wrap .u8 (v11 - (48 : Int))
let v16 : Int := IntKind.wrap .i64 v15
let v17 : Int := IntKind.wrap .i64 (v14 + v16)
let v18 : Bool := decide (v17 > (999999999 : Int))
bif v18 then
some (.inr ((0 : Int), false))
else
let v19 : Int := IntKind.wrap .i64 (z9.2.2.2 + (1 : Int))
self (v17, z9.2.1, z9.2.2.1, v19)
else
some (.inr ((0 : Int), false))
else none
else
some (.inl (z9.1, z9.2.1, z9.2.2.1, z9.2.2.2))
def r31 (lp0 : (Int × (List Int) × Int × Int) → Option ((Int × (List Int) × Int × Int) ⊕ (Int × Bool))) (a0 : ByteArray) : Option (Int × Bool) :=
let v1 : Bool := strEq a0 (⟨#[]⟩ : ByteArray)
bif v1 == false then
let v2 : Int := (a0.size : Int)
let v3 : Bool := decide (v2 > (1 : Int))
bif v3 == true then
if 0 ≤ (0 : Int) ∧ (0 : Int) < (a0.size : Int) then
let v4 : Int := byteAt a0 (0 : Int)
let v5 : Bool := decide (v4 = (48 : Int))
bif v5 then
some ((0 : Int), false)
else
if a0.size ≤ 140737488355328 then
let v6 : Int := ((strBytes a0).length : Int)
Option.bind (lp0 ((0 : Int), strBytes a0, v6, (0 : Int))) fun s7 => onSum s7 (fun y8 =>
some (y8.1, true)) (fun o20 => some o20)
else none
else none
else
if a0.size ≤ 140737488355328 then
let v21 : Int := ((strBytes a0).length : Int)
Option.bind (lp0 ((0 : Int), strBytes a0, v21, (0 : Int))) fun s22 => onSum s22 (fun y23 =>
some (y23.1, true)) (fun o24 => some o24)
else none
else
some ((0 : Int), false)
-- tatting/line.bytesOf
def F32_0 (f53 : ByteArray → Int → Option (Int)) (self : (ByteArray × Int × (List Int)) → Option ((ByteArray × Int × (List Int)) ⊕ ((List Int) × Bool))) (z8 : ByteArray × Int × (List Int)) : Option ((ByteArray × Int × (List Int)) ⊕ ((List Int) × Bool)) :=
let v9 : Int := (z8.1.size : Int)
let v10 : Bool := decide (z8.2.1 < v9)
bif v10 then
if 0 ≤ z8.2.1 ∧ z8.2.1 < (z8.1.size : Int) then
let v11 : Int := byteAt z8.1 z8.2.1
Option.bind (f53 (⟨#[48, 49, 50, 51, 52, 53, 54, 55, 56, 57, 97, 98, 99, 100, 101, 102]⟩ : ByteArray) v11) fun y12 =>
let v13 : Int := IntKind.wrap .i64 (z8.2.1 + (1 : Int))
if 0 ≤ v13 ∧ v13 < (z8.1.size : Int) then
let v14 : Int := byteAt z8.1 v13
Option.bind (f53 (⟨#[48, 49, 50, 51, 52, 53, 54, 55, 56, 57, 97, 98, 99, 100, 101, 102]⟩ : ByteArray) v14) fun y15 =>
let v16 : Bool := decide (y12 < (0 : Int))
bif v16 == false then
let v17 : Bool := decide (y15 < (0 : Int))
bif v17 then
some (.inr (([] : List Int), false))
else
let v18 : Int := IntKind.wrap .i64 ((16 : Int) * y12)
let v19 : Int := IntKind.wrap .i64 (v18 + y15)
let v20 : Int := IntKind.wrap .u8 v19
let v21 : (List Int) := ([v20] : List Int)
if (z8.2.2.length + v21.length) * 1 ≤ 140737488355328 ∧ z8.2.2.length + v21.length ≤ 140737488355328 then
let v22 : (List Int) := z8.2.2 ++ v21
let v23 : Int := IntKind.wrap .i64 (z8.2.1 + (2 : Int))
self (z8.1, v23, v22)
else none
else
some (.inr (([] : List Int), false))
else none
else none
else
some (.inl (z8.1, z8.2.1, z8.2.2))
def r32 (f53 : ByteArray → Int → Option (Int)) (lp0 : (ByteArray × Int × (List Int)) → Option ((ByteArray × Int × (List Int)) ⊕ ((List Int) × Bool))) (a0 : ByteArray) : Option ((List Int) × Bool) :=
let v1 : Bool := strEq a0 (⟨#[45]⟩ : ByteArray)
bif v1 then
some (([] : List Int), true)
else
let v2 : Bool := strEq a0 (⟨#[]⟩ : ByteArray)
bif v2 == false then
let v3 : Int := (a0.size : Int)
if (2 : Int) = 0 then none else
let v4 : Int := v3.tmod (2 : Int)
let v5 : Bool := !decide (v4 = (0 : Int))
bif v5 then
some (([] : List Int), false)
else
Option.bind (lp0 (a0, (0 : Int), ([] : List Int))) fun s6 => onSum s6 (fun y7 =>
some (y7.2.2, true)) (fun o24 => some o24)
else
some (([] : List Int), false)
-- tatting/tok.Name
def r33 (a0 : Int) : Option (ByteArray) :=
let v1 : Bool := decide (a0 = (0 : Int))
bif v1 then
some (⟨#[98, 121, 116, 101, 115]⟩ : ByteArray)
else
let v2 : Bool := decide (a0 = (1 : Int))
bif v2 then
some (⟨#[108, 105, 110, 101, 115]⟩ : ByteArray)
else
some (⟨#[]⟩ : ByteArray)
-- tatting/cost.Name
def r34 (a0 : Int) : Option (ByteArray) :=
let v1 : Bool := decide (a0 = (1 : Int))
bif v1 then
some (⟨#[103, 114, 105, 100]⟩ : ByteArray)
else
let v2 : Bool := decide (a0 = (2 : Int))
bif v2 then
some (⟨#[104, 97, 108, 118, 101]⟩ : ByteArray)
else
let v3 : Bool := decide (a0 = (3 : Int))
bif v3 then
some (⟨#[114, 117, 115, 115]⟩ : ByteArray)
else
let v4 : Bool := decide (a0 = (4 : Int))
bif v4 then
some (⟨#[104, 117, 110, 116]⟩ : ByteArray)
else
let v5 : Bool := decide (a0 = (5 : Int))
bif v5 then
some (⟨#[111, 110, 112]⟩ : ByteArray)
else
let v6 : Bool := decide (a0 = (6 : Int))
bif v6 then
some (⟨#[98, 97, 110, 100]⟩ : ByteArray)
else
let v7 : Bool := decide (a0 = (7 : Int))
bif v7 then
some (⟨#[104, 121, 121, 114, 111]⟩ : ByteArray)
else
let v8 : Bool := decide (a0 = (8 : Int))
bif v8 then
some (⟨#[99, 114, 111, 99, 104]⟩ : ByteArray)
else
some (⟨#[]⟩ : ByteArray)
-- tatting/line.hex
def F37_0 (self : ((List Int) × Int × Int × (List Int)) → Option (((List Int) × Int × Int × (List Int)) ⊕ (ByteArray))) (z6 : (List Int) × Int × Int × (List Int)) : Option (((List Int) × Int × Int × (List Int)) ⊕ (ByteArray)) :=
let v7 : Bool := decide (z6.2.2.1 < z6.2.1)
bif v7 then
if 0 ≤ z6.2.2.1 ∧ z6.2.2.1 < (z6.1.length : Int) then
let v8 : Int := z6.1.getD z6.2.2.1.toNat (0 : Int)
if (16 : Int) = 0 then none else
let v9 : Int := IntKind.wrap .u8 (v8.tdiv (16 : Int))
if 0 ≤ v9 ∧ v9 < ((⟨#[48, 49, 50, 51, 52, 53, 54, 55, 56, 57, 97, 98, 99, 100, 101, 102]⟩ : ByteArray).size : Int) then
let v10 : Int := byteAt (⟨#[48, 49, 50, 51, 52, 53, 54, 55, 56, 57, 97, 98, 99, 100, 101, 102]⟩ : ByteArray) v9
if (16 : Int) = 0 then none else
let v11 : Int := v8.tmod (16 : Int)
if 0 ≤ v11 ∧ v11 < ((⟨#[48, 49, 50, 51, 52, 53, 54, 55, 56, 57, 97, 98, 99, 100, 101, 102]⟩ : ByteArray).size : Int) then
let v12 : Int := byteAt (⟨#[48, 49, 50, 51, 52, 53, 54, 55, 56, 57, 97, 98, 99, 100, 101, 102]⟩ : ByteArray) v11
let v13 : (List Int) := ([v10, v12] : List Int)
if (z6.2.2.2.length + v13.length) * 1 ≤ 140737488355328 ∧ z6.2.2.2.length + v13.length ≤ 140737488355328 then
let v14 : (List Int) := z6.2.2.2 ++ v13
let v15 : Int := IntKind.wrap .i64 (z6.2.2.1 + (1 : Int))
self (z6.1, z6.2.1, v15, v14)
else none
else none
else none
else none
else
some (.inl (z6.1, z6.2.1, z6.2.2.1, z6.2.2.2))
def r37 (lp0 : ((List Int) × Int × Int × (List Int)) → Option (((List Int) × Int × Int × (List Int)) ⊕ (ByteArray))) (a0 : (List Int)) : Option (ByteArray) :=
let v1 : Int := (a0.length : Int)
let v2 : Bool := decide (v1 = (0 : Int))
bif v2 then
some (⟨#[45]⟩ : ByteArray)
else
let v3 : Int := (a0.length : Int)
Option.bind (lp0 (a0, v3, (0 : Int), ([] : List Int))) fun s4 => onSum s4 (fun y5 =>
let v17 : ByteArray := bytesStr y5.2.2.2
some v17) (fun o16 => some o16)
-- tatting/tattingref29.number
def r41 (f58 : (List Int) → Int → Int → Option (Int × Int)) (a0 : ByteArray) : Option (Int) :=
if a0.size ≤ 140737488355328 then
Option.bind (f58 (strBytes a0) (0 : Int) (999999999 : Int)) fun y1 =>
let v2 : Int := (a0.size : Int)
let v3 : Bool := !decide (y1.2 = v2)
bif v3 == false then
let v4 : Bool := decide (y1.2 < (1 : Int))
bif v4 then
some (-1 : Int)
else
some y1.1
else
some (-1 : Int)
else none
-- tatting/tattingref1.Mode
def r42 (a0 : ByteArray) : Option (Int × Bool) :=
let v1 : Bool := strEq a0 (⟨#[98, 121, 116, 101, 115]⟩ : ByteArray)
bif v1 then
some ((0 : Int), true)
else
let v2 : Bool := strEq a0 (⟨#[108, 105, 110, 101, 115]⟩ : ByteArray)
bif v2 then
some ((1 : Int), true)
else
some ((0 : Int), false)
-- tatting/tattingref27.Tag
def F43_0 (f46 : Int → Option (ByteArray)) (self : (ByteArray × Int) → Option ((ByteArray × Int) ⊕ (Int × Bool))) (z3 : ByteArray × Int) : Option ((ByteArray × Int) ⊕ (Int × Bool)) :=
let v4 : Bool := decide (z3.2 ≤ (8 : Int))
bif v4 then
Option.bind (f46 z3.2) fun y5 =>
let v6 : Bool := strEq y5 z3.1
bif v6 then
some (.inr (z3.2, true))
else
let v7 : Int := IntKind.wrap .i64 (z3.2 + (1 : Int))
self (z3.1, v7)
else
some (.inl (z3.1, z3.2))
def r43 (f46 : Int → Option (ByteArray)) (lp0 : (ByteArray × Int) → Option ((ByteArray × Int) ⊕ (Int × Bool))) (a0 : ByteArray) : Option (Int × Bool) :=
Option.bind (lp0 (a0, (1 : Int))) fun s1 => onSum s1 (fun y2 =>
some ((0 : Int), false)) (fun o8 => some o8)
-- tatting/tattingref29.bytesOf
def F44_0 (f59 : Int → Option (Int)) (self : (ByteArray × Int × (List Int)) → Option ((ByteArray × Int × (List Int)) ⊕ ((List Int) × Bool))) (z8 : ByteArray × Int × (List Int)) : Option ((ByteArray × Int × (List Int)) ⊕ ((List Int) × Bool)) :=
let v9 : Int := (z8.1.size : Int)
let v10 : Bool := decide (z8.2.1 < v9)
bif v10 then
if 0 ≤ z8.2.1 ∧ z8.2.1 < (z8.1.size : Int) then
let v11 : Int := byteAt z8.1 z8.2.1
Option.bind (f59 v11) fun y12 =>
let v13 : Int := IntKind.wrap .i64 (z8.2.1 + (1 : Int))
if 0 ≤ v13 ∧ v13 < (z8.1.size : Int) then
let v14 : Int := byteAt z8.1 v13
Option.bind (f59 v14) fun y15 =>
let v16 : Bool := decide (y12 < (0 : Int))
bif v16 == false then
let v17 : Bool := decide (y15 < (0 : Int))
bif v17 then
some (.inr (([] : List Int), false))
else
let v18 : Int := IntKind.wrap .i64 ((16 : Int) * y12)
let v19 : Int := IntKind.wrap .i64 (v18 + y15)
let v20 : Int := IntKind.wrap .u8 v19
let v21 : (List Int) := ([v20] : List Int)
if (z8.2.2.length + v21.length) * 1 ≤ 140737488355328 ∧ z8.2.2.length + v21.length ≤ 140737488355328 then
let v22 : (List Int) := z8.2.2 ++ v21
let v23 : Int := IntKind.wrap .i64 (z8.2.1 + (2 : Int))
self (z8.1, v23, v22)
else none
else
some (.inr (([] : List Int), false))
else none
else none
else
some (.inl (z8.1, z8.2.1, z8.2.2))
def r44 (f59 : Int → Option (Int)) (lp0 : (ByteArray × Int × (List Int)) → Option ((ByteArray × Int × (List Int)) ⊕ ((List Int) × Bool))) (a0 : ByteArray) : Option ((List Int) × Bool) :=
let v1 : Bool := strEq a0 (⟨#[45]⟩ : ByteArray)
bif v1 then
some (([] : List Int), true)
else
let v2 : Bool := strEq a0 (⟨#[]⟩ : ByteArray)
bif v2 == false then
let v3 : Int := (a0.size : Int)
if (2 : Int) = 0 then none else
let v4 : Int := v3.tmod (2 : Int)
let v5 : Bool := !decide (v4 = (0 : Int))
bif v5 then
some (([] : List Int), false)
else
Option.bind (lp0 (a0, (0 : Int), ([] : List Int))) fun s6 => onSum s6 (fun y7 =>
some (y7.2.2, true)) (fun o24 => some o24)
else
some (([] : List Int), false)
-- tatting/tattingref1.Name
def r45 (a0 : Int) : Option (ByteArray) :=
let v1 : Bool := decide (a0 = (0 : Int))
bif v1 then
some (⟨#[98, 121, 116, 101, 115]⟩ : ByteArray)
else
let v2 : Bool := decide (a0 = (1 : Int))
bif v2 then
some (⟨#[108, 105, 110, 101, 115]⟩ : ByteArray)
else
some (⟨#[]⟩ : ByteArray)
-- tatting/tattingref27.Name
def r46 (a0 : Int) : Option (ByteArray) :=
let v1 : (List ByteArray) := ([(⟨#[103, 114, 105, 100]⟩ : ByteArray), (⟨#[104, 97, 108, 118, 101]⟩ : ByteArray), (⟨#[114, 117, 115, 115]⟩ : ByteArray), (⟨#[104, 117, 110, 116]⟩ : ByteArray), (⟨#[111, 110, 112]⟩ : ByteArray), (⟨#[98, 97, 110, 100]⟩ : ByteArray), (⟨#[104, 121, 121, 114, 111]⟩ : ByteArray), (⟨#[99, 114, 111, 99, 104]⟩ : ByteArray)] : List ByteArray)
let v2 : Bool := decide (a0 < (1 : Int))
bif v2 == false then
let v3 : Int := (v1.length : Int)
let v4 : Bool := decide (a0 > v3)
bif v4 then
some (⟨#[]⟩ : ByteArray)
else
let v5 : Int := IntKind.wrap .i64 (a0 - (1 : Int))
if 0 ≤ v5 ∧ v5 < (v1.length : Int) then
let v6 : ByteArray := (v1.getD v5.toNat ByteArray.empty)
some v6
else none
else
some (⟨#[]⟩ : ByteArray)
-- tatting/tattingref29.digitsOf
def r47 (f60 : Int → Option (ByteArray)) (a0 : Int) : Option (ByteArray) :=
let v1 : Bool := decide (a0 < (0 : Int))
bif v1 then
some (⟨#[]⟩ : ByteArray)
else
Option.bind (f60 a0) fun y2 =>
some y2
-- tatting/tattingref29.Hex
def F48_0 (self : ((List Int) × Int × (List Int)) → Option (((List Int) × Int × (List Int)) ⊕ (ByteArray))) (z5 : (List Int) × Int × (List Int)) : Option (((List Int) × Int × (List Int)) ⊕ (ByteArray)) :=
let v6 : Int := (z5.1.length : Int)
let v7 : Bool := decide (z5.2.1 < v6)
bif v7 then
if 0 ≤ z5.2.1 ∧ z5.2.1 < (z5.1.length : Int) then
let v8 : Int := z5.1.getD z5.2.1.toNat (0 : Int)
if (16 : Int) = 0 then none else
let v9 : Int := IntKind.wrap .u8 (v8.tdiv (16 : Int))
if 0 ≤ v9 ∧ v9 < ((⟨#[48, 49, 50, 51, 52, 53, 54, 55, 56, 57, 97, 98, 99, 100, 101, 102]⟩ : ByteArray).size : Int) then
let v10 : Int := byteAt (⟨#[48, 49, 50, 51, 52, 53, 54, 55, 56, 57, 97, 98, 99, 100, 101, 102]⟩ : ByteArray) v9
if 0 ≤ z5.2.1 ∧ z5.2.1 < (z5.1.length : Int) then
let v11 : Int := z5.1.getD z5.2.1.toNat (0 : Int)
if (16 : Int) = 0 then none else
let v12 : Int := v11.tmod (16 : Int)
if 0 ≤ v12 ∧ v12 < ((⟨#[48, 49, 50, 51, 52, 53, 54, 55, 56, 57, 97, 98, 99, 100, 101, 102]⟩ : ByteArray).size : Int) then
let v13 : Int := byteAt (⟨#[48, 49, 50, 51, 52, 53, 54, 55, 56, 57, 97, 98, 99, 100, 101, 102]⟩ : ByteArray) v12
let v14 : (List Int) := ([v10, v13] : List Int)
if (z5.2.2.length + v14.length) * 1 ≤ 140737488355328 ∧ z5.2.2.length + v14.length ≤ 140737488355328 then
let v15 : (List Int) := z5.2.2 ++ v14
let v16 : Int := IntKind.wrap .i64 (z5.2.1 + (1 : Int))
self (z5.1, v16, v15)
else none
else none
else none
else none
else none
else
some (.inl (z5.1, z5.2.1, z5.2.2))
def r48 (lp0 : ((List Int) × Int × (List Int)) → Option (((List Int) × Int × (List Int)) ⊕ (ByteArray))) (a0 : (List Int)) : Option (ByteArray) :=
let v1 : Int := (a0.length : Int)
let v2 : Bool := decide (v1 = (0 : Int))
bif v2 then
some (⟨#[45]⟩ : ByteArray)
else
Option.bind (lp0 (a0, (0 : Int), ([] : List Int))) fun s3 => onSum s3 (fun y4 =>
let v18 : ByteArray := bytesStr y4.2.2
some v18) (fun o17 => some o17)
-- tatting/cost.Tag
def F52_0 (f34 : Int → Option (ByteArray)) (self : (ByteArray × Int) → Option ((ByteArray × Int) ⊕ (Int × Bool))) (z3 : ByteArray × Int) : Option ((ByteArray × Int) ⊕ (Int × Bool)) :=
let v4 : Bool := decide (z3.2 ≤ (8 : Int))
bif v4 then
Option.bind (f34 z3.2) fun y5 =>
let v6 : Bool := strEq y5 z3.1
bif v6 then
some (.inr (z3.2, true))
else
let v7 : Int := IntKind.wrap .i64 (z3.2 + (1 : Int))
self (z3.1, v7)
else
some (.inl (z3.1, z3.2))
def r52 (f34 : Int → Option (ByteArray)) (lp0 : (ByteArray × Int) → Option ((ByteArray × Int) ⊕ (Int × Bool))) (a0 : ByteArray) : Option (Int × Bool) :=
Option.bind (lp0 (a0, (1 : Int))) fun s1 => onSum s1 (fun y2 =>
some ((0 : Int), false)) (fun o8 => some o8)
-- tatting/tattingref24.Number
def F58_0 (self : ((List Int) × Int × Int × Int × Int) → Option (((List Int) × Int × Int × Int × Int) ⊕ (Int × Int))) (z3 : (List Int) × Int × Int × Int × Int) : Option (((List Int) × Int × Int × Int × Int) ⊕ (Int × Int)) :=
let v4 : Int := (z3.1.length : Int)
let v5 : Bool := decide (z3.2.2.2.2 < v4)
bif v5 == true then
if 0 ≤ z3.2.2.2.2 ∧ z3.2.2.2.2 < (z3.1.length : Int) then
let v6 : Int := z3.1.getD z3.2.2.2.2.toNat (0 : Int)
let v7 : Bool := decide (v6 ≥ (48 : Int))
bif v7 == true then
if 0 ≤ z3.2.2.2.2 ∧ z3.2.2.2.2 < (z3.1.length : Int) then
let v8 : Int := z3.1.getD z3.2.2.2.2.toNat (0 : Int)
let v9 : Bool := decide (v8 ≤ (57 : Int))
bif v9 then
let v10 : Bool := decide (z3.2.2.2.2 > z3.2.1)
bif v10 == true then
let v11 : Bool := decide (z3.2.2.2.1 = (0 : Int))
bif v11 == false then
let v12 : Bool := decide (z3.2.2.2.1 > z3.2.2.1)
bif v12 then
some (.inr ((0 : Int), (-1 : Int)))
else
let v13 : Int := IntKind.wrap .i64 (z3.2.2.2.1 * (10 : Int))
if 0 ≤ z3.2.2.2.2 ∧ z3.2.2.2.2 < (z3.1.length : Int) then
let v14 : Int := z3.1.getD z3.2.2.2.2.toNat (0 : Int)
let v15 : Int := IntKind.wrap .u8 (v14 - (48 : Int))
let v16 : Int := IntKind.wrap .i64 v15
let v17 : Int := IntKind.wrap .i64 (v13 + v16)
let v18 : Int := IntKind.wrap .i64 (z3.2.2.2.2 + (1 : Int))
self (z3.1, z3.2.1, z3.2.2.1, v17, v18)
else none
else
some (.inr ((0 : Int), (-1 : Int)))
else
let v19 : Bool := decide (z3.2.2.2.1 > z3.2.2.1)
bif v19 then
some (.inr ((0 : Int), (-1 : Int)))
else
let v20 : Int := IntKind.wrap .i64 (z3.2.2.2.1 * (10 : Int))
if 0 ≤ z3.2.2.2.2 ∧ z3.2.2.2.2 < (z3.1.length : Int) then
let v21 : Int := z3.1.getD z3.2.2.2.2.toNat (0 : Int)
let v22 : Int := IntKind.wrap .u8 (v21 - (48 : Int))
let v23 : Int := IntKind.wrap .i64 v22
let v24 : Int := IntKind.wrap .i64 (v20 + v23)
let v25 : Int := IntKind.wrap .i64 (z3.2.2.2.2 + (1 : Int))
self (z3.1, z3.2.1, z3.2.2.1, v24, v25)
else none
else
some (.inl (z3.1, z3.2.1, z3.2.2.1, z3.2.2.2.1, z3.2.2.2.2))
else none
else
some (.inl (z3.1, z3.2.1, z3.2.2.1, z3.2.2.2.1, z3.2.2.2.2))
else none
else
some (.inl (z3.1, z3.2.1, z3.2.2.1, z3.2.2.2.1, z3.2.2.2.2))
def r58 (lp0 : ((List Int) × Int × Int × Int × Int) → Option (((List Int) × Int × Int × Int × Int) ⊕ (Int × Int))) (a0 : (List Int)) (a1 : Int) (a2 : Int) : Option (Int × Int) :=
Option.bind (lp0 (a0, a1, a2, (0 : Int), a1)) fun s1 => onSum s1 (fun y2 =>
let v27 : Bool := decide (y2.2.2.2.2 = y2.2.1)
bif v27 == false then
let v28 : Bool := decide (y2.2.2.2.1 > y2.2.2.1)
bif v28 then
some ((0 : Int), (-1 : Int))
else
some (y2.2.2.2.1, y2.2.2.2.2)
else
some ((0 : Int), (-1 : Int))) (fun o26 => some o26)
-- tatting/tattingref29.half
def F59_0 (self : (Int × Int) → Option ((Int × Int) ⊕ (Int))) (z3 : Int × Int) : Option ((Int × Int) ⊕ (Int)) :=
let v4 : Bool := decide (z3.2 < (16 : Int))
bif v4 then
if 0 ≤ z3.2 ∧ z3.2 < ((⟨#[48, 49, 50, 51, 52, 53, 54, 55, 56, 57, 97, 98, 99, 100, 101, 102]⟩ : ByteArray).size : Int) then
let v5 : Int := byteAt (⟨#[48, 49, 50, 51, 52, 53, 54, 55, 56, 57, 97, 98, 99, 100, 101, 102]⟩ : ByteArray) z3.2
let v6 : Bool := decide (v5 = z3.1)
bif v6 then
some (.inr z3.2)
else
let v7 : Int := IntKind.wrap .i64 (z3.2 + (1 : Int))
self (z3.1, v7)
else none
else
some (.inl (z3.1, z3.2))
def r59 (lp0 : (Int × Int) → Option ((Int × Int) ⊕ (Int))) (a0 : Int) : Option (Int) :=
Option.bind (lp0 (a0, (0 : Int))) fun s1 => onSum s1 (fun y2 =>
some (-1 : Int)) (fun o8 => some o8)
-- tatting/tattingref24.Digits
def r60 (f60 : Int → Option (ByteArray)) (a0 : Int) : Option (ByteArray) :=
let v1 : Bool := decide (a0 < (10 : Int))
bif v1 then
let v2 : Int := IntKind.wrap .i64 ((48 : Int) + a0)
let v3 : Int := IntKind.wrap .u8 v2
let v4 : (List Int) := ([v3] : List Int)
let v5 : ByteArray := bytesStr v4
some v5
else
if (10 : Int) = 0 then none else
let v6 : Int := IntKind.wrap .i64 (a0.tdiv (10 : Int))
Option.bind (f60 v6) fun y7 =>
if (10 : Int) = 0 then none else
let v8 : Int := a0.tmod (10 : Int)
let v9 : Int := IntKind.wrap .i64 ((48 : Int) + v8)
let v10 : Int := IntKind.wrap .u8 v9
let v11 : (List Int) := ([v10] : List Int)
let v12 : ByteArray := bytesStr v11
if y7.size + v12.size ≤ 140737488355328 then
let v13 : ByteArray := y7 ++ v12
some v13
else none
def g5 (call : CallFn E) : (Int × (Int × (Int × (Int × (Int × (Int × ((List Int) × (List Int)))))))) → Option (Bool) := fun x0 => call 5 x0
def g8 (call : CallFn E) : ByteArray → Option ((Int × (Int × (Int × (Int × (Int × (Int × ((List Int) × (List Int)))))))) × Int × Int) := fun x0 => call 8 x0
def g9 (call : CallFn E) : (Int × (Int × (Int × (Int × (Int × (Int × ((List Int) × (List Int)))))))) → Option (ByteArray × Int) := fun x0 => call 9 x0
def g11 (call : CallFn E) : Unit → Option (Bool) := fun _ => call 11 ()
def g12 (call : CallFn E) : ByteArray → Option ((Int × (Int × (Int × (Int × (Int × (Int × ((List Int) × (List Int)))))))) × Int × Int) := fun x0 => call 12 x0
def g13 (call : CallFn E) : (Int × (Int × (Int × (Int × (Int × (Int × ((List Int) × (List Int)))))))) → (Int × (Int × (Int × (Int × (Int × (Int × ((List Int) × (List Int)))))))) → Option (Bool) := fun x0 x1 => call 13 (x0, x1)
def g14 (call : CallFn E) : (Int × (Int × (Int × (Int × (Int × (Int × ((List Int) × (List Int)))))))) → Option (ByteArray × Int) := fun x0 => call 14 x0
def g15 (call : CallFn E) : ByteArray → ByteArray → Option ((List ByteArray)) := fun x0 x1 => call 15 (x0, x1)
def g16 (call : CallFn E) : ByteArray → Option (Int × Bool) := fun x0 => call 16 x0
def g17 (call : CallFn E) : Int → Option ((List Int)) := fun x0 => call 17 x0
def g18 (call : CallFn E) : Int → ByteArray → (Int × (Int × (Int × (Int × (Int × (Int × ((List Int) × (List Int)))))))) → Option (Bool × (Int × (Int × (Int × (Int × (Int × (Int × ((List Int) × (List Int))))))))) := fun x0 x1 x2 => call 18 (x0, x1, x2)
def g19 (call : CallFn E) : Int → Option (ByteArray) := fun x0 => call 19 x0
def g20 (call : CallFn E) : (Int × (Int × (Int × (Int × (Int × (Int × ((List Int) × (List Int)))))))) → Int → Option (ByteArray) := fun x0 x1 => call 20 (x0, x1)
def g21 (call : CallFn E) : (List ByteArray) → ByteArray → Option (ByteArray) := fun x0 x1 => call 21 (x0, x1)
def g22 (call : CallFn E) : (Int × (Int × (Int × (Int × (Int × (Int × ((List Int) × (List Int)))))))) → (Int × (Int × (Int × (Int × (Int × (Int × ((List Int) × (List Int)))))))) → Option (Bool) := fun x0 x1 => call 22 (x0, x1)
def g23 (call : CallFn E) : ByteArray → Option ((List (ByteArray × Int))) := fun x0 => call 23 x0
def g24 (call : CallFn E) : ByteArray → Option (Int) := fun x0 => call 24 x0
def g25 (call : CallFn E) : Int → Option (ByteArray) := fun x0 => call 25 x0
def g26 (call : CallFn E) : (Int × (Int × (Int × (Int × (Int × (Int × ((List Int) × (List Int)))))))) → Int → ByteArray → Option ((Int × (Int × (Int × (Int × (Int × (Int × ((List Int) × (List Int)))))))) × Bool) := fun x0 x1 x2 => call 26 (x0, x1, x2)
def g27 (call : CallFn E) : (Int × (Int × (Int × (Int × (Int × (Int × ((List Int) × (List Int)))))))) → Int → Option (ByteArray) := fun x0 x1 => call 27 (x0, x1)
def g29 (call : CallFn E) : ByteArray → Option (Int × Bool) := fun x0 => call 29 x0
def g30 (call : CallFn E) : ByteArray → Option (Int × Bool) := fun x0 => call 30 x0
def g31 (call : CallFn E) : ByteArray → Option (Int × Bool) := fun x0 => call 31 x0
def g32 (call : CallFn E) : ByteArray → Option ((List Int) × Bool) := fun x0 => call 32 x0
def g33 (call : CallFn E) : Int → Option (ByteArray) := fun x0 => call 33 x0
def g34 (call : CallFn E) : Int → Option (ByteArray) := fun x0 => call 34 x0
def g35 (call : CallFn E) : Int → Option (ByteArray) := fun x0 => call 35 x0
def g36 (call : CallFn E) : Int → Int → Option (ByteArray) := fun x0 x1 => call 36 (x0, x1)
def g37 (call : CallFn E) : (List Int) → Option (ByteArray) := fun x0 => call 37 x0
def g41 (call : CallFn E) : ByteArray → Option (Int) := fun x0 => call 41 x0
def g42 (call : CallFn E) : ByteArray → Option (Int × Bool) := fun x0 => call 42 x0
def g43 (call : CallFn E) : ByteArray → Option (Int × Bool) := fun x0 => call 43 x0
def g44 (call : CallFn E) : ByteArray → Option ((List Int) × Bool) := fun x0 => call 44 x0
def g45 (call : CallFn E) : Int → Option (ByteArray) := fun x0 => call 45 x0
def g46 (call : CallFn E) : Int → Option (ByteArray) := fun x0 => call 46 x0
def g47 (call : CallFn E) : Int → Option (ByteArray) := fun x0 => call 47 x0
def g48 (call : CallFn E) : (List Int) → Option (ByteArray) := fun x0 => call 48 x0
def g52 (call : CallFn E) : ByteArray → Option (Int × Bool) := fun x0 => call 52 x0
def g53 (call : CallFn E) : ByteArray → Int → Option (Int) := fun x0 x1 => call 53 (x0, x1)
def g58 (call : CallFn E) : (List Int) → Int → Int → Option (Int × Int) := fun x0 x1 x2 => call 58 (x0, x1, x2)
def g59 (call : CallFn E) : Int → Option (Int) := fun x0 => call 59 x0
def g60 (call : CallFn E) : Int → Option (ByteArray) := fun x0 => call 60 x0
noncomputable def q5 (call : CallFn E) (n : Nat) (a0 : (Int × (Int × (Int × (Int × (Int × (Int × ((List Int) × (List Int))))))))) : Option (Bool) := runHow E call n s5 a0 h5
theorem rr5 (call : CallFn E) (n : Nat) (a0 : (Int × (Int × (Int × (Int × (Int × (Int × ((List Int) × (List Int))))))))) : q5 call n a0 = r5 (g9 call) (g11 call) (g14 call)  a0 := by kernel_rfl
theorem gq5 (n : Nat) (a0 : (Int × (Int × (Int × (Int × (Int × (Int × ((List Int) × (List Int))))))))) : g5 (evalF E (n + 1)) a0 = q5 (evalF E n) n a0 := by kernel_rfl
def L8_0 : LH := ⟨[0, 2, 3, 5, 8, 33, 34, 35], ⟨[.dat .str, .ptr 0 0, .dat (.int .i64), .dat (.slice .str), .dat (.slice (.int .i64)), .dat (.slice .str), .dat (.int .i64), .dat (.int .i64)], [.var (.pair (.int .i64) (.pair (.int .i64) (.pair (.int .i64) (.pair (.int .i64) (.pair (.int .i64) (.pair (.int .i64) (.pair (.slice (.int .u8)) (.one (.slice (.int .u8))))))))))]⟩, 0⟩
noncomputable def b8_0 : Code := codeAt c8 [1, 1, 1, 1, 1, 1, 1, 0, 1, 0, 0]
noncomputable def lq8_0 (call : CallFn E) (n m : Nat) (y : ByteArray × Int × (List ByteArray) × (List Int) × (List ByteArray) × Int × Int × (Int × (Int × (Int × (Int × (Int × (Int × ((List Int) × (List Int))))))))) : Option ((ByteArray × Int × (List ByteArray) × (List Int) × (List ByteArray) × Int × Int × (Int × (Int × (Int × (Int × (Int × (Int × ((List Int) × (List Int))))))))) ⊕ ((Int × (Int × (Int × (Int × (Int × (Int × ((List Int) × (List Int)))))))) × Int × Int)) := loopAt (ctxOf E call n s8 Tryd.f8 hs8) b8_0 [0, 1, 0, 1, 1, 1, 1, 1, 1, 1] L8_0 m y
theorem lp8_0 (call : CallFn E) (n m : Nat) (y : ByteArray × Int × (List ByteArray) × (List Int) × (List ByteArray) × Int × Int × (Int × (Int × (Int × (Int × (Int × (Int × ((List Int) × (List Int))))))))) : lq8_0 call n (m + 1) y = F8_0 (g15 call) (g16 call) (g17 call) (g18 call)  (lq8_0 call n m) y := by kernel_rfl
noncomputable def q8 (call : CallFn E) (n : Nat) (a0 : ByteArray) : Option ((Int × (Int × (Int × (Int × (Int × (Int × ((List Int) × (List Int)))))))) × Int × Int) := runHow E call n s8 a0 h8
theorem rr8 (call : CallFn E) (n : Nat) (a0 : ByteArray) : q8 call n a0 = r8 (g15 call) (g16 call) (g17 call) (g18 call) (lq8_0 call n n) a0 := by kernel_rfl
theorem gq8 (n : Nat) (a0 : ByteArray) : g8 (evalF E (n + 1)) a0 = q8 (evalF E n) n a0 := by kernel_rfl
def L9_0 : LH := ⟨[1, 4, 17, 18, 19], ⟨[.ptr 0 0, .ref 1, .dat (.slice (.int .i64)), .dat (.int .i64), .dat (.int .i64)], [.var (.pair (.int .i64) (.pair (.int .i64) (.pair (.int .i64) (.pair (.int .i64) (.pair (.int .i64) (.pair (.int .i64) (.pair (.slice (.int .u8)) (.one (.slice (.int .u8)))))))))), .row .str]⟩, 0⟩
noncomputable def b9_0 : Code := codeAt c9 [1, 1, 0, 1, 0, 0]
noncomputable def lq9_0 (call : CallFn E) (n m : Nat) (y : (List Int) × Int × Int × (Int × (Int × (Int × (Int × (Int × (Int × ((List Int) × (List Int)))))))) × (List ByteArray)) : Option (((List Int) × Int × Int × (Int × (Int × (Int × (Int × (Int × (Int × ((List Int) × (List Int)))))))) × (List ByteArray)) ⊕ (ByteArray × Int)) := loopAt (ctxOf E call n s9 Tryd.f9 hs9) b9_0 [0, 1, 0, 1, 1] L9_0 m y
theorem lp9_0 (call : CallFn E) (n m : Nat) (y : (List Int) × Int × Int × (Int × (Int × (Int × (Int × (Int × (Int × ((List Int) × (List Int)))))))) × (List ByteArray)) : lq9_0 call n (m + 1) y = F9_0 (g8 call) (g17 call) (g19 call) (g20 call) (g21 call) (g22 call)  (lq9_0 call n m) y := by kernel_rfl
noncomputable def q9 (call : CallFn E) (n : Nat) (a0 : (Int × (Int × (Int × (Int × (Int × (Int × ((List Int) × (List Int))))))))) : Option (ByteArray × Int) := runHow E call n s9 a0 h9
theorem rr9 (call : CallFn E) (n : Nat) (a0 : (Int × (Int × (Int × (Int × (Int × (Int × ((List Int) × (List Int))))))))) : q9 call n a0 = r9 (g8 call) (g17 call) (g19 call) (g20 call) (g21 call) (g22 call) (lq9_0 call n n) a0 := by kernel_rfl
theorem gq9 (n : Nat) (a0 : (Int × (Int × (Int × (Int × (Int × (Int × ((List Int) × (List Int))))))))) : g9 (evalF E (n + 1)) a0 = q9 (evalF E n) n a0 := by kernel_rfl
noncomputable def q11 (call : CallFn E) (n : Nat) (_ : Unit) : Option (Bool) := runHow E call n s11 () h11
theorem rr11 (call : CallFn E) (n : Nat) (u : Unit) : q11 call n u = r11 (g8 call) (g9 call)  u := by kernel_rfl
theorem gq11 (n : Nat) (u : Unit) : g11 (evalF E (n + 1)) u = q11 (evalF E n) n u := by kernel_rfl
def L12_0 : LH := ⟨[0, 2, 5, 6, 7, 8], ⟨[.dat .str, .ptr 0 0, .dat (.slice (.pair .str (.one (.int .i64)))), .ptr 1 0, .dat .str, .dat (.int .i64)], [.var (.pair (.int .i64) (.pair (.int .i64) (.pair (.int .i64) (.pair (.int .i64) (.pair (.int .i64) (.pair (.int .i64) (.pair (.slice (.int .u8)) (.one (.slice (.int .u8)))))))))), .var (.pair (.int .i64) (.pair (.int .i64) (.pair (.int .i64) (.pair (.int .i64) (.pair (.int .i64) (.pair (.int .i64) (.pair (.slice (.int .u8)) (.one (.slice (.int .u8))))))))))]⟩, 0⟩
noncomputable def b12_0 : Code := codeAt c12 [1, 1, 1, 1, 1, 0, 1, 0, 0]
noncomputable def lq12_0 (call : CallFn E) (n m : Nat) (y : ByteArray × (List (ByteArray × Int)) × ByteArray × Int × (Int × (Int × (Int × (Int × (Int × (Int × ((List Int) × (List Int)))))))) × (Int × (Int × (Int × (Int × (Int × (Int × ((List Int) × (List Int))))))))) : Option ((ByteArray × (List (ByteArray × Int)) × ByteArray × Int × (Int × (Int × (Int × (Int × (Int × (Int × ((List Int) × (List Int)))))))) × (Int × (Int × (Int × (Int × (Int × (Int × ((List Int) × (List Int))))))))) ⊕ ((Int × (Int × (Int × (Int × (Int × (Int × ((List Int) × (List Int)))))))) × Int × Int)) := loopAt (ctxOf E call n s12 Tryd.f12 hs12) b12_0 [0, 1, 0, 1, 1, 1, 1, 1] L12_0 m y
theorem lp12_0 (call : CallFn E) (n m : Nat) (y : ByteArray × (List (ByteArray × Int)) × ByteArray × Int × (Int × (Int × (Int × (Int × (Int × (Int × ((List Int) × (List Int)))))))) × (Int × (Int × (Int × (Int × (Int × (Int × ((List Int) × (List Int))))))))) : lq12_0 call n (m + 1) y = F12_0 (g23 call) (g24 call) (g25 call) (g26 call)  (lq12_0 call n m) y := by kernel_rfl
noncomputable def q12 (call : CallFn E) (n : Nat) (a0 : ByteArray) : Option ((Int × (Int × (Int × (Int × (Int × (Int × ((List Int) × (List Int)))))))) × Int × Int) := runHow E call n s12 a0 h12
theorem rr12 (call : CallFn E) (n : Nat) (a0 : ByteArray) : q12 call n a0 = r12 (g23 call) (g24 call) (g25 call) (g26 call) (lq12_0 call n n) a0 := by kernel_rfl
theorem gq12 (n : Nat) (a0 : ByteArray) : g12 (evalF E (n + 1)) a0 = q12 (evalF E n) n a0 := by kernel_rfl
noncomputable def q13 (call : CallFn E) (n : Nat) (a0 : (Int × (Int × (Int × (Int × (Int × (Int × ((List Int) × (List Int))))))))) (a1 : (Int × (Int × (Int × (Int × (Int × (Int × ((List Int) × (List Int))))))))) : Option (Bool) := runHow E call n s13 (a0, a1) h13
theorem rr13 (call : CallFn E) (n : Nat) (a0 : (Int × (Int × (Int × (Int × (Int × (Int × ((List Int) × (List Int))))))))) (a1 : (Int × (Int × (Int × (Int × (Int × (Int × ((List Int) × (List Int))))))))) : q13 call n a0 a1 = r13   a0 a1 := by kernel_rfl
theorem gq13 (n : Nat) (a0 : (Int × (Int × (Int × (Int × (Int × (Int × ((List Int) × (List Int))))))))) (a1 : (Int × (Int × (Int × (Int × (Int × (Int × ((List Int) × (List Int))))))))) : g13 (evalF E (n + 1)) a0 a1 = q13 (evalF E n) n a0 a1 := by kernel_rfl
def L14_0 : LH := ⟨[1, 4, 5, 6], ⟨[.ptr 0 0, .dat .str, .dat .str, .dat (.int .i64)], [.var (.pair (.int .i64) (.pair (.int .i64) (.pair (.int .i64) (.pair (.int .i64) (.pair (.int .i64) (.pair (.int .i64) (.pair (.slice (.int .u8)) (.one (.slice (.int .u8))))))))))]⟩, 0⟩
noncomputable def b14_0 : Code := codeAt c14 [1, 1, 1, 1, 0, 1, 0, 0]
noncomputable def lq14_0 (call : CallFn E) (n m : Nat) (y : ByteArray × ByteArray × Int × (Int × (Int × (Int × (Int × (Int × (Int × ((List Int) × (List Int))))))))) : Option ((ByteArray × ByteArray × Int × (Int × (Int × (Int × (Int × (Int × (Int × ((List Int) × (List Int))))))))) ⊕ (ByteArray × Int)) := loopAt (ctxOf E call n s14 Tryd.f14 hs14) b14_0 [0, 1, 0, 1, 1, 1, 1] L14_0 m y
theorem lp14_0 (call : CallFn E) (n m : Nat) (y : ByteArray × ByteArray × Int × (Int × (Int × (Int × (Int × (Int × (Int × ((List Int) × (List Int))))))))) : lq14_0 call n (m + 1) y = F14_0 (g12 call) (g13 call) (g25 call) (g27 call)  (lq14_0 call n m) y := by kernel_rfl
noncomputable def q14 (call : CallFn E) (n : Nat) (a0 : (Int × (Int × (Int × (Int × (Int × (Int × ((List Int) × (List Int))))))))) : Option (ByteArray × Int) := runHow E call n s14 a0 h14
theorem rr14 (call : CallFn E) (n : Nat) (a0 : (Int × (Int × (Int × (Int × (Int × (Int × ((List Int) × (List Int))))))))) : q14 call n a0 = r14 (g12 call) (g13 call) (g25 call) (g27 call) (lq14_0 call n n) a0 := by kernel_rfl
theorem gq14 (n : Nat) (a0 : (Int × (Int × (Int × (Int × (Int × (Int × ((List Int) × (List Int))))))))) : g14 (evalF E (n + 1)) a0 = q14 (evalF E n) n a0 := by kernel_rfl
def L16_0 : LH := ⟨[0, 4], ⟨[.dat .str, .dat (.int .i64)], []⟩, 0⟩
noncomputable def b16_0 : Code := codeAt c16 [1, 0, 1, 0, 0]
noncomputable def lq16_0 (call : CallFn E) (n m : Nat) (y : ByteArray × Int) : Option ((ByteArray × Int) ⊕ (Int × Bool)) := loopAt (ctxOf E call n s16 Tryd.f16 hs16) b16_0 [0, 1, 0, 1] L16_0 m y
theorem lp16_0 (call : CallFn E) (n m : Nat) (y : ByteArray × Int) : lq16_0 call n (m + 1) y = F16_0 (g19 call)  (lq16_0 call n m) y := by kernel_rfl
noncomputable def q16 (call : CallFn E) (n : Nat) (a0 : ByteArray) : Option (Int × Bool) := runHow E call n s16 a0 h16
theorem rr16 (call : CallFn E) (n : Nat) (a0 : ByteArray) : q16 call n a0 = r16 (g19 call) (lq16_0 call n n) a0 := by kernel_rfl
theorem gq16 (n : Nat) (a0 : ByteArray) : g16 (evalF E (n + 1)) a0 = q16 (evalF E n) n a0 := by kernel_rfl
noncomputable def q17 (call : CallFn E) (n : Nat) (a0 : Int) : Option ((List Int)) := runHow E call n s17 a0 h17
theorem rr17 (call : CallFn E) (n : Nat) (a0 : Int) : q17 call n a0 = r17   a0 := by kernel_rfl
theorem gq17 (n : Nat) (a0 : Int) : g17 (evalF E (n + 1)) a0 = q17 (evalF E n) n a0 := by kernel_rfl
noncomputable def q18 (call : CallFn E) (n : Nat) (a0 : Int) (a1 : ByteArray) (a2 : (Int × (Int × (Int × (Int × (Int × (Int × ((List Int) × (List Int))))))))) : Option (Bool × (Int × (Int × (Int × (Int × (Int × (Int × ((List Int) × (List Int))))))))) := runHow E call n s18 (a0, a1, a2) h18
theorem rr18 (call : CallFn E) (n : Nat) (a0 : Int) (a1 : ByteArray) (a2 : (Int × (Int × (Int × (Int × (Int × (Int × ((List Int) × (List Int))))))))) : q18 call n a0 a1 a2 = r18 (g29 call) (g30 call) (g31 call) (g32 call)  a0 a1 a2 := by kernel_rfl
theorem gq18 (n : Nat) (a0 : Int) (a1 : ByteArray) (a2 : (Int × (Int × (Int × (Int × (Int × (Int × ((List Int) × (List Int))))))))) : g18 (evalF E (n + 1)) a0 a1 a2 = q18 (evalF E n) n a0 a1 a2 := by kernel_rfl
noncomputable def q19 (call : CallFn E) (n : Nat) (a0 : Int) : Option (ByteArray) := runHow E call n s19 a0 h19
theorem rr19 (call : CallFn E) (n : Nat) (a0 : Int) : q19 call n a0 = r19   a0 := by kernel_rfl
theorem gq19 (n : Nat) (a0 : Int) : g19 (evalF E (n + 1)) a0 = q19 (evalF E n) n a0 := by kernel_rfl
noncomputable def q20 (call : CallFn E) (n : Nat) (a0 : (Int × (Int × (Int × (Int × (Int × (Int × ((List Int) × (List Int))))))))) (a1 : Int) : Option (ByteArray) := runHow E call n s20 (a0, a1) h20
theorem rr20 (call : CallFn E) (n : Nat) (a0 : (Int × (Int × (Int × (Int × (Int × (Int × ((List Int) × (List Int))))))))) (a1 : Int) : q20 call n a0 a1 = r20 (g33 call) (g34 call) (g35 call) (g36 call) (g37 call)  a0 a1 := by kernel_rfl
theorem gq20 (n : Nat) (a0 : (Int × (Int × (Int × (Int × (Int × (Int × ((List Int) × (List Int))))))))) (a1 : Int) : g20 (evalF E (n + 1)) a0 a1 = q20 (evalF E n) n a0 a1 := by kernel_rfl
noncomputable def q22 (call : CallFn E) (n : Nat) (a0 : (Int × (Int × (Int × (Int × (Int × (Int × ((List Int) × (List Int))))))))) (a1 : (Int × (Int × (Int × (Int × (Int × (Int × ((List Int) × (List Int))))))))) : Option (Bool) := runHow E call n s22 (a0, a1) h22
theorem rr22 (call : CallFn E) (n : Nat) (a0 : (Int × (Int × (Int × (Int × (Int × (Int × ((List Int) × (List Int))))))))) (a1 : (Int × (Int × (Int × (Int × (Int × (Int × ((List Int) × (List Int))))))))) : q22 call n a0 a1 = r22   a0 a1 := by kernel_rfl
theorem gq22 (n : Nat) (a0 : (Int × (Int × (Int × (Int × (Int × (Int × ((List Int) × (List Int))))))))) (a1 : (Int × (Int × (Int × (Int × (Int × (Int × ((List Int) × (List Int))))))))) : g22 (evalF E (n + 1)) a0 a1 = q22 (evalF E n) n a0 a1 := by kernel_rfl
def L23_0 : LH := ⟨[0, 3, 4, 5], ⟨[.dat .str, .ref 0, .dat (.int .i64), .dat (.int .i64)], [.row (.pair .str (.one (.int .i64)))]⟩, 0⟩
noncomputable def b23_0 : Code := codeAt c23 [1, 1, 1, 0, 1, 0, 0]
noncomputable def lq23_0 (call : CallFn E) (n m : Nat) (y : ByteArray × Int × Int × (List (ByteArray × Int))) : Option ((ByteArray × Int × Int × (List (ByteArray × Int))) ⊕ ((List (ByteArray × Int)))) := loopAt (ctxOf E call n s23 Tryd.f23 hs23) b23_0 [0, 1, 0, 1, 1, 1] L23_0 m y
theorem lp23_0 (call : CallFn E) (n m : Nat) (y : ByteArray × Int × Int × (List (ByteArray × Int))) : lq23_0 call n (m + 1) y = F23_0   (lq23_0 call n m) y := by kernel_rfl
noncomputable def q23 (call : CallFn E) (n : Nat) (a0 : ByteArray) : Option ((List (ByteArray × Int))) := runHow E call n s23 a0 h23
theorem rr23 (call : CallFn E) (n : Nat) (a0 : ByteArray) : q23 call n a0 = r23  (lq23_0 call n n) a0 := by kernel_rfl
theorem gq23 (n : Nat) (a0 : ByteArray) : g23 (evalF E (n + 1)) a0 = q23 (evalF E n) n a0 := by kernel_rfl
def L24_0 : LH := ⟨[0, 3, 4], ⟨[.dat .str, .dat (.slice .str), .dat (.int .i64)], []⟩, 0⟩
noncomputable def b24_0 : Code := codeAt c24 [1, 1, 0, 1, 0, 0]
noncomputable def lq24_0 (call : CallFn E) (n m : Nat) (y : ByteArray × (List ByteArray) × Int) : Option ((ByteArray × (List ByteArray) × Int) ⊕ (Int)) := loopAt (ctxOf E call n s24 Tryd.f24 hs24) b24_0 [0, 1, 0, 1, 1] L24_0 m y
theorem lp24_0 (call : CallFn E) (n m : Nat) (y : ByteArray × (List ByteArray) × Int) : lq24_0 call n (m + 1) y = F24_0   (lq24_0 call n m) y := by kernel_rfl
noncomputable def q24 (call : CallFn E) (n : Nat) (a0 : ByteArray) : Option (Int) := runHow E call n s24 a0 h24
theorem rr24 (call : CallFn E) (n : Nat) (a0 : ByteArray) : q24 call n a0 = r24  (lq24_0 call n n) a0 := by kernel_rfl
theorem gq24 (n : Nat) (a0 : ByteArray) : g24 (evalF E (n + 1)) a0 = q24 (evalF E n) n a0 := by kernel_rfl
noncomputable def q25 (call : CallFn E) (n : Nat) (a0 : Int) : Option (ByteArray) := runHow E call n s25 a0 h25
theorem rr25 (call : CallFn E) (n : Nat) (a0 : Int) : q25 call n a0 = r25   a0 := by kernel_rfl
theorem gq25 (n : Nat) (a0 : Int) : g25 (evalF E (n + 1)) a0 = q25 (evalF E n) n a0 := by kernel_rfl
noncomputable def q26 (call : CallFn E) (n : Nat) (a0 : (Int × (Int × (Int × (Int × (Int × (Int × ((List Int) × (List Int))))))))) (a1 : Int) (a2 : ByteArray) : Option ((Int × (Int × (Int × (Int × (Int × (Int × ((List Int) × (List Int)))))))) × Bool) := runHow E call n s26 (a0, a1, a2) h26
theorem rr26 (call : CallFn E) (n : Nat) (a0 : (Int × (Int × (Int × (Int × (Int × (Int × ((List Int) × (List Int))))))))) (a1 : Int) (a2 : ByteArray) : q26 call n a0 a1 a2 = r26 (g41 call) (g42 call) (g43 call) (g44 call)  a0 a1 a2 := by kernel_rfl
theorem gq26 (n : Nat) (a0 : (Int × (Int × (Int × (Int × (Int × (Int × ((List Int) × (List Int))))))))) (a1 : Int) (a2 : ByteArray) : g26 (evalF E (n + 1)) a0 a1 a2 = q26 (evalF E n) n a0 a1 a2 := by kernel_rfl
noncomputable def q27 (call : CallFn E) (n : Nat) (a0 : (Int × (Int × (Int × (Int × (Int × (Int × ((List Int) × (List Int))))))))) (a1 : Int) : Option (ByteArray) := runHow E call n s27 (a0, a1) h27
theorem rr27 (call : CallFn E) (n : Nat) (a0 : (Int × (Int × (Int × (Int × (Int × (Int × ((List Int) × (List Int))))))))) (a1 : Int) : q27 call n a0 a1 = r27 (g45 call) (g46 call) (g47 call) (g48 call)  a0 a1 := by kernel_rfl
theorem gq27 (n : Nat) (a0 : (Int × (Int × (Int × (Int × (Int × (Int × ((List Int) × (List Int))))))))) (a1 : Int) : g27 (evalF E (n + 1)) a0 a1 = q27 (evalF E n) n a0 a1 := by kernel_rfl
noncomputable def q29 (call : CallFn E) (n : Nat) (a0 : ByteArray) : Option (Int × Bool) := runHow E call n s29 a0 h29
theorem rr29 (call : CallFn E) (n : Nat) (a0 : ByteArray) : q29 call n a0 = r29   a0 := by kernel_rfl
theorem gq29 (n : Nat) (a0 : ByteArray) : g29 (evalF E (n + 1)) a0 = q29 (evalF E n) n a0 := by kernel_rfl
noncomputable def q30 (call : CallFn E) (n : Nat) (a0 : ByteArray) : Option (Int × Bool) := runHow E call n s30 a0 h30
theorem rr30 (call : CallFn E) (n : Nat) (a0 : ByteArray) : q30 call n a0 = r30 (g52 call)  a0 := by kernel_rfl
theorem gq30 (n : Nat) (a0 : ByteArray) : g30 (evalF E (n + 1)) a0 = q30 (evalF E n) n a0 := by kernel_rfl
def L31_0 : LH := ⟨[4, 20, 21, 22], ⟨[.dat (.int .i64), .dat (.slice (.int .u8)), .dat (.int .i64), .dat (.int .i64)], []⟩, 0⟩
noncomputable def b31_0 : Code := codeAt c31 [1, 1, 1, 0, 1, 0, 0]
noncomputable def lq31_0 (call : CallFn E) (n m : Nat) (y : Int × (List Int) × Int × Int) : Option ((Int × (List Int) × Int × Int) ⊕ (Int × Bool)) := loopAt (ctxOf E call n s31 Tryd.f31 hs31) b31_0 [0, 1, 0, 1, 1, 1] L31_0 m y
theorem lp31_0 (call : CallFn E) (n m : Nat) (y : Int × (List Int) × Int × Int) : lq31_0 call n (m + 1) y = F31_0   (lq31_0 call n m) y := by kernel_rfl
noncomputable def q31 (call : CallFn E) (n : Nat) (a0 : ByteArray) : Option (Int × Bool) := runHow E call n s31 a0 h31
theorem rr31 (call : CallFn E) (n : Nat) (a0 : ByteArray) : q31 call n a0 = r31  (lq31_0 call n n) a0 := by kernel_rfl
theorem gq31 (n : Nat) (a0 : ByteArray) : g31 (evalF E (n + 1)) a0 = q31 (evalF E n) n a0 := by kernel_rfl
def L32_0 : LH := ⟨[0, 4, 5], ⟨[.dat .str, .ref 0, .dat (.int .i64)], [.row (.int .u8)]⟩, 0⟩
noncomputable def b32_0 : Code := codeAt c32 [1, 1, 1, 1, 0, 1, 0, 0]
noncomputable def lq32_0 (call : CallFn E) (n m : Nat) (y : ByteArray × Int × (List Int)) : Option ((ByteArray × Int × (List Int)) ⊕ ((List Int) × Bool)) := loopAt (ctxOf E call n s32 Tryd.f32 hs32) b32_0 [0, 1, 0, 1, 1, 1, 1] L32_0 m y
theorem lp32_0 (call : CallFn E) (n m : Nat) (y : ByteArray × Int × (List Int)) : lq32_0 call n (m + 1) y = F32_0 (g53 call)  (lq32_0 call n m) y := by kernel_rfl
noncomputable def q32 (call : CallFn E) (n : Nat) (a0 : ByteArray) : Option ((List Int) × Bool) := runHow E call n s32 a0 h32
theorem rr32 (call : CallFn E) (n : Nat) (a0 : ByteArray) : q32 call n a0 = r32 (g53 call) (lq32_0 call n n) a0 := by kernel_rfl
theorem gq32 (n : Nat) (a0 : ByteArray) : g32 (evalF E (n + 1)) a0 = q32 (evalF E n) n a0 := by kernel_rfl
noncomputable def q33 (call : CallFn E) (n : Nat) (a0 : Int) : Option (ByteArray) := runHow E call n s33 a0 h33
theorem rr33 (call : CallFn E) (n : Nat) (a0 : Int) : q33 call n a0 = r33   a0 := by kernel_rfl
theorem gq33 (n : Nat) (a0 : Int) : g33 (evalF E (n + 1)) a0 = q33 (evalF E n) n a0 := by kernel_rfl
noncomputable def q34 (call : CallFn E) (n : Nat) (a0 : Int) : Option (ByteArray) := runHow E call n s34 a0 h34
theorem rr34 (call : CallFn E) (n : Nat) (a0 : Int) : q34 call n a0 = r34   a0 := by kernel_rfl
theorem gq34 (n : Nat) (a0 : Int) : g34 (evalF E (n + 1)) a0 = q34 (evalF E n) n a0 := by kernel_rfl
def L37_0 : LH := ⟨[3, 9, 10, 11], ⟨[.ref 0, .dat (.slice (.int .u8)), .dat (.int .i64), .dat (.int .i64)], [.row (.int .u8)]⟩, 0⟩
noncomputable def b37_0 : Code := codeAt c37 [1, 1, 1, 0, 1, 0, 0]
noncomputable def lq37_0 (call : CallFn E) (n m : Nat) (y : (List Int) × Int × Int × (List Int)) : Option (((List Int) × Int × Int × (List Int)) ⊕ (ByteArray)) := loopAt (ctxOf E call n s37 Tryd.f37 hs37) b37_0 [0, 1, 0, 1, 1, 1] L37_0 m y
theorem lp37_0 (call : CallFn E) (n m : Nat) (y : (List Int) × Int × Int × (List Int)) : lq37_0 call n (m + 1) y = F37_0   (lq37_0 call n m) y := by kernel_rfl
noncomputable def q37 (call : CallFn E) (n : Nat) (a0 : (List Int)) : Option (ByteArray) := runHow E call n s37 a0 h37
theorem rr37 (call : CallFn E) (n : Nat) (a0 : (List Int)) : q37 call n a0 = r37  (lq37_0 call n n) a0 := by kernel_rfl
theorem gq37 (n : Nat) (a0 : (List Int)) : g37 (evalF E (n + 1)) a0 = q37 (evalF E n) n a0 := by kernel_rfl
noncomputable def q41 (call : CallFn E) (n : Nat) (a0 : ByteArray) : Option (Int) := runHow E call n s41 a0 h41
theorem rr41 (call : CallFn E) (n : Nat) (a0 : ByteArray) : q41 call n a0 = r41 (g58 call)  a0 := by kernel_rfl
theorem gq41 (n : Nat) (a0 : ByteArray) : g41 (evalF E (n + 1)) a0 = q41 (evalF E n) n a0 := by kernel_rfl
noncomputable def q42 (call : CallFn E) (n : Nat) (a0 : ByteArray) : Option (Int × Bool) := runHow E call n s42 a0 h42
theorem rr42 (call : CallFn E) (n : Nat) (a0 : ByteArray) : q42 call n a0 = r42   a0 := by kernel_rfl
theorem gq42 (n : Nat) (a0 : ByteArray) : g42 (evalF E (n + 1)) a0 = q42 (evalF E n) n a0 := by kernel_rfl
def L43_0 : LH := ⟨[0, 4], ⟨[.dat .str, .dat (.int .i64)], []⟩, 0⟩
noncomputable def b43_0 : Code := codeAt c43 [1, 0, 1, 0, 0]
noncomputable def lq43_0 (call : CallFn E) (n m : Nat) (y : ByteArray × Int) : Option ((ByteArray × Int) ⊕ (Int × Bool)) := loopAt (ctxOf E call n s43 Tryd.f43 hs43) b43_0 [0, 1, 0, 1] L43_0 m y
theorem lp43_0 (call : CallFn E) (n m : Nat) (y : ByteArray × Int) : lq43_0 call n (m + 1) y = F43_0 (g46 call)  (lq43_0 call n m) y := by kernel_rfl
noncomputable def q43 (call : CallFn E) (n : Nat) (a0 : ByteArray) : Option (Int × Bool) := runHow E call n s43 a0 h43
theorem rr43 (call : CallFn E) (n : Nat) (a0 : ByteArray) : q43 call n a0 = r43 (g46 call) (lq43_0 call n n) a0 := by kernel_rfl
theorem gq43 (n : Nat) (a0 : ByteArray) : g43 (evalF E (n + 1)) a0 = q43 (evalF E n) n a0 := by kernel_rfl
def L44_0 : LH := ⟨[0, 4, 5], ⟨[.dat .str, .ref 0, .dat (.int .i64)], [.row (.int .u8)]⟩, 0⟩
noncomputable def b44_0 : Code := codeAt c44 [1, 1, 1, 1, 0, 1, 0, 0]
noncomputable def lq44_0 (call : CallFn E) (n m : Nat) (y : ByteArray × Int × (List Int)) : Option ((ByteArray × Int × (List Int)) ⊕ ((List Int) × Bool)) := loopAt (ctxOf E call n s44 Tryd.f44 hs44) b44_0 [0, 1, 0, 1, 1, 1, 1] L44_0 m y
theorem lp44_0 (call : CallFn E) (n m : Nat) (y : ByteArray × Int × (List Int)) : lq44_0 call n (m + 1) y = F44_0 (g59 call)  (lq44_0 call n m) y := by kernel_rfl
noncomputable def q44 (call : CallFn E) (n : Nat) (a0 : ByteArray) : Option ((List Int) × Bool) := runHow E call n s44 a0 h44
theorem rr44 (call : CallFn E) (n : Nat) (a0 : ByteArray) : q44 call n a0 = r44 (g59 call) (lq44_0 call n n) a0 := by kernel_rfl
theorem gq44 (n : Nat) (a0 : ByteArray) : g44 (evalF E (n + 1)) a0 = q44 (evalF E n) n a0 := by kernel_rfl
noncomputable def q45 (call : CallFn E) (n : Nat) (a0 : Int) : Option (ByteArray) := runHow E call n s45 a0 h45
theorem rr45 (call : CallFn E) (n : Nat) (a0 : Int) : q45 call n a0 = r45   a0 := by kernel_rfl
theorem gq45 (n : Nat) (a0 : Int) : g45 (evalF E (n + 1)) a0 = q45 (evalF E n) n a0 := by kernel_rfl
noncomputable def q46 (call : CallFn E) (n : Nat) (a0 : Int) : Option (ByteArray) := runHow E call n s46 a0 h46
theorem rr46 (call : CallFn E) (n : Nat) (a0 : Int) : q46 call n a0 = r46   a0 := by kernel_rfl
theorem gq46 (n : Nat) (a0 : Int) : g46 (evalF E (n + 1)) a0 = q46 (evalF E n) n a0 := by kernel_rfl
noncomputable def q47 (call : CallFn E) (n : Nat) (a0 : Int) : Option (ByteArray) := runHow E call n s47 a0 h47
theorem rr47 (call : CallFn E) (n : Nat) (a0 : Int) : q47 call n a0 = r47 (g60 call)  a0 := by kernel_rfl
theorem gq47 (n : Nat) (a0 : Int) : g47 (evalF E (n + 1)) a0 = q47 (evalF E n) n a0 := by kernel_rfl
def L48_0 : LH := ⟨[0, 3, 4], ⟨[.dat (.slice (.int .u8)), .ref 0, .dat (.int .i64)], [.row (.int .u8)]⟩, 0⟩
noncomputable def b48_0 : Code := codeAt c48 [1, 1, 1, 0, 1, 0, 0]
noncomputable def lq48_0 (call : CallFn E) (n m : Nat) (y : (List Int) × Int × (List Int)) : Option (((List Int) × Int × (List Int)) ⊕ (ByteArray)) := loopAt (ctxOf E call n s48 Tryd.f48 hs48) b48_0 [0, 1, 0, 1, 1, 1] L48_0 m y
theorem lp48_0 (call : CallFn E) (n m : Nat) (y : (List Int) × Int × (List Int)) : lq48_0 call n (m + 1) y = F48_0   (lq48_0 call n m) y := by kernel_rfl
noncomputable def q48 (call : CallFn E) (n : Nat) (a0 : (List Int)) : Option (ByteArray) := runHow E call n s48 a0 h48
theorem rr48 (call : CallFn E) (n : Nat) (a0 : (List Int)) : q48 call n a0 = r48  (lq48_0 call n n) a0 := by kernel_rfl
theorem gq48 (n : Nat) (a0 : (List Int)) : g48 (evalF E (n + 1)) a0 = q48 (evalF E n) n a0 := by kernel_rfl
def L52_0 : LH := ⟨[0, 4], ⟨[.dat .str, .dat (.int .i64)], []⟩, 0⟩
noncomputable def b52_0 : Code := codeAt c52 [1, 0, 1, 0, 0]
noncomputable def lq52_0 (call : CallFn E) (n m : Nat) (y : ByteArray × Int) : Option ((ByteArray × Int) ⊕ (Int × Bool)) := loopAt (ctxOf E call n s52 Tryd.f52 hs52) b52_0 [0, 1, 0, 1] L52_0 m y
theorem lp52_0 (call : CallFn E) (n m : Nat) (y : ByteArray × Int) : lq52_0 call n (m + 1) y = F52_0 (g34 call)  (lq52_0 call n m) y := by kernel_rfl
noncomputable def q52 (call : CallFn E) (n : Nat) (a0 : ByteArray) : Option (Int × Bool) := runHow E call n s52 a0 h52
theorem rr52 (call : CallFn E) (n : Nat) (a0 : ByteArray) : q52 call n a0 = r52 (g34 call) (lq52_0 call n n) a0 := by kernel_rfl
theorem gq52 (n : Nat) (a0 : ByteArray) : g52 (evalF E (n + 1)) a0 = q52 (evalF E n) n a0 := by kernel_rfl
def L58_0 : LH := ⟨[0, 1, 2, 8, 9], ⟨[.dat (.slice (.int .u8)), .dat (.int .i64), .dat (.int .i64), .dat (.int .i64), .dat (.int .i64)], []⟩, 0⟩
noncomputable def b58_0 : Code := codeAt c58 [1, 1, 0, 0, 0]
noncomputable def lq58_0 (call : CallFn E) (n m : Nat) (y : (List Int) × Int × Int × Int × Int) : Option (((List Int) × Int × Int × Int × Int) ⊕ (Int × Int)) := loopAt (ctxOf E call n s58 Tryd.f58 hs58) b58_0 [0, 0, 1, 1] L58_0 m y
theorem lp58_0 (call : CallFn E) (n m : Nat) (y : (List Int) × Int × Int × Int × Int) : lq58_0 call n (m + 1) y = F58_0   (lq58_0 call n m) y := by kernel_rfl
noncomputable def q58 (call : CallFn E) (n : Nat) (a0 : (List Int)) (a1 : Int) (a2 : Int) : Option (Int × Int) := runHow E call n s58 (a0, a1, a2) h58
theorem rr58 (call : CallFn E) (n : Nat) (a0 : (List Int)) (a1 : Int) (a2 : Int) : q58 call n a0 a1 a2 = r58  (lq58_0 call n n) a0 a1 a2 := by kernel_rfl
theorem gq58 (n : Nat) (a0 : (List Int)) (a1 : Int) (a2 : Int) : g58 (evalF E (n + 1)) a0 a1 a2 = q58 (evalF E n) n a0 a1 a2 := by kernel_rfl
def L59_0 : LH := ⟨[0, 3], ⟨[.dat (.int .u8), .dat (.int .i64)], []⟩, 0⟩
noncomputable def b59_0 : Code := codeAt c59 [1, 0, 1, 0, 0]
noncomputable def lq59_0 (call : CallFn E) (n m : Nat) (y : Int × Int) : Option ((Int × Int) ⊕ (Int)) := loopAt (ctxOf E call n s59 Tryd.f59 hs59) b59_0 [0, 1, 0, 1] L59_0 m y
theorem lp59_0 (call : CallFn E) (n m : Nat) (y : Int × Int) : lq59_0 call n (m + 1) y = F59_0   (lq59_0 call n m) y := by kernel_rfl
noncomputable def q59 (call : CallFn E) (n : Nat) (a0 : Int) : Option (Int) := runHow E call n s59 a0 h59
theorem rr59 (call : CallFn E) (n : Nat) (a0 : Int) : q59 call n a0 = r59  (lq59_0 call n n) a0 := by kernel_rfl
theorem gq59 (n : Nat) (a0 : Int) : g59 (evalF E (n + 1)) a0 = q59 (evalF E n) n a0 := by kernel_rfl
noncomputable def q60 (call : CallFn E) (n : Nat) (a0 : Int) : Option (ByteArray) := runHow E call n s60 a0 h60
theorem rr60 (call : CallFn E) (n : Nat) (a0 : Int) : q60 call n a0 = r60 (g60 call)  a0 := by kernel_rfl
theorem gq60 (n : Nat) (a0 : Int) : g60 (evalF E (n + 1)) a0 = q60 (evalF E n) n a0 := by kernel_rfl
def R15 : Nat → ByteArray → ByteArray → Option ((List ByteArray))
  | 0, _, _ => none
  | _ + 1, a0, a1 => LineX.splitW (a0, a1)
theorem e15 (n : Nat) : g15 (evalF E n) = R15 n := by cases n <;> rfl
def R19 : Nat → Int → Option (ByteArray)
  | 0, _ => none
  | n + 1, a0 => r19   a0
theorem u19 (n : Nat) (a0 : Int) : R19 (n + 1) a0 = r19   a0 := rfl
theorem e19 : ∀ (n : Nat), g19 (evalF E n) = R19 n
  | 0 => by funext a0; rfl
  | n + 1 => by
    funext a0
    rw [gq19, rr19]
    rfl
def R16 : Nat → ByteArray → Option (Int × Bool)
  | 0, _ => none
  | n + 1, a0 => r16 (R19 n) (iter (F16_0 (R19 n) ) n) a0
def J16_0 (n m : Nat) : (ByteArray × Int) → Option ((ByteArray × Int) ⊕ (Int × Bool)) := iter (F16_0 (R19 n) ) m
theorem j16_0 (n m : Nat) (x : ByteArray × Int) : J16_0 n (m + 1) x = F16_0 (R19 n)  (J16_0 n m) x := rfl
theorem u16 (n : Nat) (a0 : ByteArray) : R16 (n + 1) a0 = r16 (R19 n) (J16_0 n n) a0 := rfl
theorem e16 : ∀ (n : Nat), g16 (evalF E n) = R16 n
  | 0 => by funext a0; rfl
  | n + 1 => by
    have l0 : lq16_0 (evalF E n) n n = (iter (F16_0 (R19 n) ) n) := iter_of (g := lq16_0 (evalF E n) n) rfl (fun m y => by rw [lp16_0]; simp only [e19 n]) n
    funext a0
    rw [gq16, rr16]
    simp only [e19 n, l0]
    rfl
def R17 : Nat → Int → Option ((List Int))
  | 0, _ => none
  | n + 1, a0 => r17   a0
theorem u17 (n : Nat) (a0 : Int) : R17 (n + 1) a0 = r17   a0 := rfl
theorem e17 : ∀ (n : Nat), g17 (evalF E n) = R17 n
  | 0 => by funext a0; rfl
  | n + 1 => by
    funext a0
    rw [gq17, rr17]
    rfl
def R29 : Nat → ByteArray → Option (Int × Bool)
  | 0, _ => none
  | n + 1, a0 => r29   a0
theorem u29 (n : Nat) (a0 : ByteArray) : R29 (n + 1) a0 = r29   a0 := rfl
theorem e29 : ∀ (n : Nat), g29 (evalF E n) = R29 n
  | 0 => by funext a0; rfl
  | n + 1 => by
    funext a0
    rw [gq29, rr29]
    rfl
def R34 : Nat → Int → Option (ByteArray)
  | 0, _ => none
  | n + 1, a0 => r34   a0
theorem u34 (n : Nat) (a0 : Int) : R34 (n + 1) a0 = r34   a0 := rfl
theorem e34 : ∀ (n : Nat), g34 (evalF E n) = R34 n
  | 0 => by funext a0; rfl
  | n + 1 => by
    funext a0
    rw [gq34, rr34]
    rfl
def R52 : Nat → ByteArray → Option (Int × Bool)
  | 0, _ => none
  | n + 1, a0 => r52 (R34 n) (iter (F52_0 (R34 n) ) n) a0
def J52_0 (n m : Nat) : (ByteArray × Int) → Option ((ByteArray × Int) ⊕ (Int × Bool)) := iter (F52_0 (R34 n) ) m
theorem j52_0 (n m : Nat) (x : ByteArray × Int) : J52_0 n (m + 1) x = F52_0 (R34 n)  (J52_0 n m) x := rfl
theorem u52 (n : Nat) (a0 : ByteArray) : R52 (n + 1) a0 = r52 (R34 n) (J52_0 n n) a0 := rfl
theorem e52 : ∀ (n : Nat), g52 (evalF E n) = R52 n
  | 0 => by funext a0; rfl
  | n + 1 => by
    have l0 : lq52_0 (evalF E n) n n = (iter (F52_0 (R34 n) ) n) := iter_of (g := lq52_0 (evalF E n) n) rfl (fun m y => by rw [lp52_0]; simp only [e34 n]) n
    funext a0
    rw [gq52, rr52]
    simp only [e34 n, l0]
    rfl
def R30 : Nat → ByteArray → Option (Int × Bool)
  | 0, _ => none
  | n + 1, a0 => r30 (R52 n)  a0
theorem u30 (n : Nat) (a0 : ByteArray) : R30 (n + 1) a0 = r30 (R52 n)  a0 := rfl
theorem e30 : ∀ (n : Nat), g30 (evalF E n) = R30 n
  | 0 => by funext a0; rfl
  | n + 1 => by
    funext a0
    rw [gq30, rr30]
    simp only [e52 n]
    rfl
def R31 : Nat → ByteArray → Option (Int × Bool)
  | 0, _ => none
  | n + 1, a0 => r31  (iter (F31_0  ) n) a0
def J31_0 (n m : Nat) : (Int × (List Int) × Int × Int) → Option ((Int × (List Int) × Int × Int) ⊕ (Int × Bool)) := iter (F31_0  ) m
theorem j31_0 (n m : Nat) (x : Int × (List Int) × Int × Int) : J31_0 n (m + 1) x = F31_0   (J31_0 n m) x := rfl
theorem u31 (n : Nat) (a0 : ByteArray) : R31 (n + 1) a0 = r31  (J31_0 n n) a0 := rfl
theorem e31 : ∀ (n : Nat), g31 (evalF E n) = R31 n
  | 0 => by funext a0; rfl
  | n + 1 => by
    have l0 : lq31_0 (evalF E n) n n = (iter (F31_0  ) n) := iter_of (g := lq31_0 (evalF E n) n) rfl (fun m y => by rw [lp31_0]) n
    funext a0
    rw [gq31, rr31]
    simp only [l0]
    rfl
def R53 : Nat → ByteArray → Int → Option (Int)
  | 0, _, _ => none
  | _ + 1, a0, a1 => LineX.idxW (a0, a1)
theorem e53 (n : Nat) : g53 (evalF E n) = R53 n := by cases n <;> rfl
def R32 : Nat → ByteArray → Option ((List Int) × Bool)
  | 0, _ => none
  | n + 1, a0 => r32 (R53 n) (iter (F32_0 (R53 n) ) n) a0
def J32_0 (n m : Nat) : (ByteArray × Int × (List Int)) → Option ((ByteArray × Int × (List Int)) ⊕ ((List Int) × Bool)) := iter (F32_0 (R53 n) ) m
theorem j32_0 (n m : Nat) (x : ByteArray × Int × (List Int)) : J32_0 n (m + 1) x = F32_0 (R53 n)  (J32_0 n m) x := rfl
theorem u32 (n : Nat) (a0 : ByteArray) : R32 (n + 1) a0 = r32 (R53 n) (J32_0 n n) a0 := rfl
theorem e32 : ∀ (n : Nat), g32 (evalF E n) = R32 n
  | 0 => by funext a0; rfl
  | n + 1 => by
    have l0 : lq32_0 (evalF E n) n n = (iter (F32_0 (R53 n) ) n) := iter_of (g := lq32_0 (evalF E n) n) rfl (fun m y => by rw [lp32_0]; simp only [e53 n]) n
    funext a0
    rw [gq32, rr32]
    simp only [e53 n, l0]
    rfl
def R18 : Nat → Int → ByteArray → (Int × (Int × (Int × (Int × (Int × (Int × ((List Int) × (List Int)))))))) → Option (Bool × (Int × (Int × (Int × (Int × (Int × (Int × ((List Int) × (List Int)))))))))
  | 0, _, _, _ => none
  | n + 1, a0, a1, a2 => r18 (R29 n) (R30 n) (R31 n) (R32 n)  a0 a1 a2
theorem u18 (n : Nat) (a0 : Int) (a1 : ByteArray) (a2 : (Int × (Int × (Int × (Int × (Int × (Int × ((List Int) × (List Int))))))))) : R18 (n + 1) a0 a1 a2 = r18 (R29 n) (R30 n) (R31 n) (R32 n)  a0 a1 a2 := rfl
theorem e18 : ∀ (n : Nat), g18 (evalF E n) = R18 n
  | 0 => by funext a0 a1 a2; rfl
  | n + 1 => by
    funext a0 a1 a2
    rw [gq18, rr18]
    simp only [e29 n, e30 n, e31 n, e32 n]
    rfl
def R8 : Nat → ByteArray → Option ((Int × (Int × (Int × (Int × (Int × (Int × ((List Int) × (List Int)))))))) × Int × Int)
  | 0, _ => none
  | n + 1, a0 => r8 (R15 n) (R16 n) (R17 n) (R18 n) (iter (F8_0 (R15 n) (R16 n) (R17 n) (R18 n) ) n) a0
def J8_0 (n m : Nat) : (ByteArray × Int × (List ByteArray) × (List Int) × (List ByteArray) × Int × Int × (Int × (Int × (Int × (Int × (Int × (Int × ((List Int) × (List Int))))))))) → Option ((ByteArray × Int × (List ByteArray) × (List Int) × (List ByteArray) × Int × Int × (Int × (Int × (Int × (Int × (Int × (Int × ((List Int) × (List Int))))))))) ⊕ ((Int × (Int × (Int × (Int × (Int × (Int × ((List Int) × (List Int)))))))) × Int × Int)) := iter (F8_0 (R15 n) (R16 n) (R17 n) (R18 n) ) m
theorem j8_0 (n m : Nat) (x : ByteArray × Int × (List ByteArray) × (List Int) × (List ByteArray) × Int × Int × (Int × (Int × (Int × (Int × (Int × (Int × ((List Int) × (List Int))))))))) : J8_0 n (m + 1) x = F8_0 (R15 n) (R16 n) (R17 n) (R18 n)  (J8_0 n m) x := rfl
theorem u8 (n : Nat) (a0 : ByteArray) : R8 (n + 1) a0 = r8 (R15 n) (R16 n) (R17 n) (R18 n) (J8_0 n n) a0 := rfl
theorem e8 : ∀ (n : Nat), g8 (evalF E n) = R8 n
  | 0 => by funext a0; rfl
  | n + 1 => by
    have l0 : lq8_0 (evalF E n) n n = (iter (F8_0 (R15 n) (R16 n) (R17 n) (R18 n) ) n) := iter_of (g := lq8_0 (evalF E n) n) rfl (fun m y => by rw [lp8_0]; simp only [e15 n, e16 n, e17 n, e18 n]) n
    funext a0
    rw [gq8, rr8]
    simp only [e15 n, e16 n, e17 n, e18 n, l0]
    rfl
def R33 : Nat → Int → Option (ByteArray)
  | 0, _ => none
  | n + 1, a0 => r33   a0
theorem u33 (n : Nat) (a0 : Int) : R33 (n + 1) a0 = r33   a0 := rfl
theorem e33 : ∀ (n : Nat), g33 (evalF E n) = R33 n
  | 0 => by funext a0; rfl
  | n + 1 => by
    funext a0
    rw [gq33, rr33]
    rfl
def R35 : Nat → Int → Option (ByteArray)
  | 0, _ => none
  | _ + 1, a0 => LineX.itoaW a0
theorem e35 (n : Nat) : g35 (evalF E n) = R35 n := by cases n <;> rfl
def R36 : Nat → Int → Int → Option (ByteArray)
  | 0, _, _ => none
  | _ + 1, a0, a1 => LineX.fmtW (a0, a1)
theorem e36 (n : Nat) : g36 (evalF E n) = R36 n := by cases n <;> rfl
def R37 : Nat → (List Int) → Option (ByteArray)
  | 0, _ => none
  | n + 1, a0 => r37  (iter (F37_0  ) n) a0
def J37_0 (n m : Nat) : ((List Int) × Int × Int × (List Int)) → Option (((List Int) × Int × Int × (List Int)) ⊕ (ByteArray)) := iter (F37_0  ) m
theorem j37_0 (n m : Nat) (x : (List Int) × Int × Int × (List Int)) : J37_0 n (m + 1) x = F37_0   (J37_0 n m) x := rfl
theorem u37 (n : Nat) (a0 : (List Int)) : R37 (n + 1) a0 = r37  (J37_0 n n) a0 := rfl
theorem e37 : ∀ (n : Nat), g37 (evalF E n) = R37 n
  | 0 => by funext a0; rfl
  | n + 1 => by
    have l0 : lq37_0 (evalF E n) n n = (iter (F37_0  ) n) := iter_of (g := lq37_0 (evalF E n) n) rfl (fun m y => by rw [lp37_0]) n
    funext a0
    rw [gq37, rr37]
    simp only [l0]
    rfl
def R20 : Nat → (Int × (Int × (Int × (Int × (Int × (Int × ((List Int) × (List Int)))))))) → Int → Option (ByteArray)
  | 0, _, _ => none
  | n + 1, a0, a1 => r20 (R33 n) (R34 n) (R35 n) (R36 n) (R37 n)  a0 a1
theorem u20 (n : Nat) (a0 : (Int × (Int × (Int × (Int × (Int × (Int × ((List Int) × (List Int))))))))) (a1 : Int) : R20 (n + 1) a0 a1 = r20 (R33 n) (R34 n) (R35 n) (R36 n) (R37 n)  a0 a1 := rfl
theorem e20 : ∀ (n : Nat), g20 (evalF E n) = R20 n
  | 0 => by funext a0 a1; rfl
  | n + 1 => by
    funext a0 a1
    rw [gq20, rr20]
    simp only [e33 n, e34 n, e35 n, e36 n, e37 n]
    rfl
def R21 : Nat → (List ByteArray) → ByteArray → Option (ByteArray)
  | 0, _, _ => none
  | _ + 1, a0, a1 => LineX.joinW (a0, a1)
theorem e21 (n : Nat) : g21 (evalF E n) = R21 n := by cases n <;> rfl
def R22 : Nat → (Int × (Int × (Int × (Int × (Int × (Int × ((List Int) × (List Int)))))))) → (Int × (Int × (Int × (Int × (Int × (Int × ((List Int) × (List Int)))))))) → Option (Bool)
  | 0, _, _ => none
  | n + 1, a0, a1 => r22   a0 a1
theorem u22 (n : Nat) (a0 : (Int × (Int × (Int × (Int × (Int × (Int × ((List Int) × (List Int))))))))) (a1 : (Int × (Int × (Int × (Int × (Int × (Int × ((List Int) × (List Int))))))))) : R22 (n + 1) a0 a1 = r22   a0 a1 := rfl
theorem e22 : ∀ (n : Nat), g22 (evalF E n) = R22 n
  | 0 => by funext a0 a1; rfl
  | n + 1 => by
    funext a0 a1
    rw [gq22, rr22]
    rfl
def R9 : Nat → (Int × (Int × (Int × (Int × (Int × (Int × ((List Int) × (List Int)))))))) → Option (ByteArray × Int)
  | 0, _ => none
  | n + 1, a0 => r9 (R8 n) (R17 n) (R19 n) (R20 n) (R21 n) (R22 n) (iter (F9_0 (R8 n) (R17 n) (R19 n) (R20 n) (R21 n) (R22 n) ) n) a0
def J9_0 (n m : Nat) : ((List Int) × Int × Int × (Int × (Int × (Int × (Int × (Int × (Int × ((List Int) × (List Int)))))))) × (List ByteArray)) → Option (((List Int) × Int × Int × (Int × (Int × (Int × (Int × (Int × (Int × ((List Int) × (List Int)))))))) × (List ByteArray)) ⊕ (ByteArray × Int)) := iter (F9_0 (R8 n) (R17 n) (R19 n) (R20 n) (R21 n) (R22 n) ) m
theorem j9_0 (n m : Nat) (x : (List Int) × Int × Int × (Int × (Int × (Int × (Int × (Int × (Int × ((List Int) × (List Int)))))))) × (List ByteArray)) : J9_0 n (m + 1) x = F9_0 (R8 n) (R17 n) (R19 n) (R20 n) (R21 n) (R22 n)  (J9_0 n m) x := rfl
theorem u9 (n : Nat) (a0 : (Int × (Int × (Int × (Int × (Int × (Int × ((List Int) × (List Int))))))))) : R9 (n + 1) a0 = r9 (R8 n) (R17 n) (R19 n) (R20 n) (R21 n) (R22 n) (J9_0 n n) a0 := rfl
theorem e9 : ∀ (n : Nat), g9 (evalF E n) = R9 n
  | 0 => by funext a0; rfl
  | n + 1 => by
    have l0 : lq9_0 (evalF E n) n n = (iter (F9_0 (R8 n) (R17 n) (R19 n) (R20 n) (R21 n) (R22 n) ) n) := iter_of (g := lq9_0 (evalF E n) n) rfl (fun m y => by rw [lp9_0]; simp only [e8 n, e17 n, e19 n, e20 n, e21 n, e22 n]) n
    funext a0
    rw [gq9, rr9]
    simp only [e8 n, e17 n, e19 n, e20 n, e21 n, e22 n, l0]
    rfl
def R11 : Nat → Unit → Option (Bool)
  | 0, _ => none
  | n + 1, u => r11 (R8 n) (R9 n)  u
theorem u11 (n : Nat) (_ : Unit) : R11 (n + 1) () = r11 (R8 n) (R9 n)  () := rfl
theorem e11 : ∀ (n : Nat), g11 (evalF E n) = R11 n
  | 0 => by funext u; rfl
  | n + 1 => by
    funext u
    rw [gq11, rr11]
    simp only [e8 n, e9 n]
    rfl
def R23 : Nat → ByteArray → Option ((List (ByteArray × Int)))
  | 0, _ => none
  | n + 1, a0 => r23  (iter (F23_0  ) n) a0
def J23_0 (n m : Nat) : (ByteArray × Int × Int × (List (ByteArray × Int))) → Option ((ByteArray × Int × Int × (List (ByteArray × Int))) ⊕ ((List (ByteArray × Int)))) := iter (F23_0  ) m
theorem j23_0 (n m : Nat) (x : ByteArray × Int × Int × (List (ByteArray × Int))) : J23_0 n (m + 1) x = F23_0   (J23_0 n m) x := rfl
theorem u23 (n : Nat) (a0 : ByteArray) : R23 (n + 1) a0 = r23  (J23_0 n n) a0 := rfl
theorem e23 : ∀ (n : Nat), g23 (evalF E n) = R23 n
  | 0 => by funext a0; rfl
  | n + 1 => by
    have l0 : lq23_0 (evalF E n) n n = (iter (F23_0  ) n) := iter_of (g := lq23_0 (evalF E n) n) rfl (fun m y => by rw [lp23_0]) n
    funext a0
    rw [gq23, rr23]
    simp only [l0]
    rfl
def R24 : Nat → ByteArray → Option (Int)
  | 0, _ => none
  | n + 1, a0 => r24  (iter (F24_0  ) n) a0
def J24_0 (n m : Nat) : (ByteArray × (List ByteArray) × Int) → Option ((ByteArray × (List ByteArray) × Int) ⊕ (Int)) := iter (F24_0  ) m
theorem j24_0 (n m : Nat) (x : ByteArray × (List ByteArray) × Int) : J24_0 n (m + 1) x = F24_0   (J24_0 n m) x := rfl
theorem u24 (n : Nat) (a0 : ByteArray) : R24 (n + 1) a0 = r24  (J24_0 n n) a0 := rfl
theorem e24 : ∀ (n : Nat), g24 (evalF E n) = R24 n
  | 0 => by funext a0; rfl
  | n + 1 => by
    have l0 : lq24_0 (evalF E n) n n = (iter (F24_0  ) n) := iter_of (g := lq24_0 (evalF E n) n) rfl (fun m y => by rw [lp24_0]) n
    funext a0
    rw [gq24, rr24]
    simp only [l0]
    rfl
def R25 : Nat → Int → Option (ByteArray)
  | 0, _ => none
  | n + 1, a0 => r25   a0
theorem u25 (n : Nat) (a0 : Int) : R25 (n + 1) a0 = r25   a0 := rfl
theorem e25 : ∀ (n : Nat), g25 (evalF E n) = R25 n
  | 0 => by funext a0; rfl
  | n + 1 => by
    funext a0
    rw [gq25, rr25]
    rfl
def R58 : Nat → (List Int) → Int → Int → Option (Int × Int)
  | 0, _, _, _ => none
  | n + 1, a0, a1, a2 => r58  (iter (F58_0  ) n) a0 a1 a2
def J58_0 (n m : Nat) : ((List Int) × Int × Int × Int × Int) → Option (((List Int) × Int × Int × Int × Int) ⊕ (Int × Int)) := iter (F58_0  ) m
theorem j58_0 (n m : Nat) (x : (List Int) × Int × Int × Int × Int) : J58_0 n (m + 1) x = F58_0   (J58_0 n m) x := rfl
theorem u58 (n : Nat) (a0 : (List Int)) (a1 : Int) (a2 : Int) : R58 (n + 1) a0 a1 a2 = r58  (J58_0 n n) a0 a1 a2 := rfl
theorem e58 : ∀ (n : Nat), g58 (evalF E n) = R58 n
  | 0 => by funext a0 a1 a2; rfl
  | n + 1 => by
    have l0 : lq58_0 (evalF E n) n n = (iter (F58_0  ) n) := iter_of (g := lq58_0 (evalF E n) n) rfl (fun m y => by rw [lp58_0]) n
    funext a0 a1 a2
    rw [gq58, rr58]
    simp only [l0]
    rfl
def R41 : Nat → ByteArray → Option (Int)
  | 0, _ => none
  | n + 1, a0 => r41 (R58 n)  a0
theorem u41 (n : Nat) (a0 : ByteArray) : R41 (n + 1) a0 = r41 (R58 n)  a0 := rfl
theorem e41 : ∀ (n : Nat), g41 (evalF E n) = R41 n
  | 0 => by funext a0; rfl
  | n + 1 => by
    funext a0
    rw [gq41, rr41]
    simp only [e58 n]
    rfl
def R42 : Nat → ByteArray → Option (Int × Bool)
  | 0, _ => none
  | n + 1, a0 => r42   a0
theorem u42 (n : Nat) (a0 : ByteArray) : R42 (n + 1) a0 = r42   a0 := rfl
theorem e42 : ∀ (n : Nat), g42 (evalF E n) = R42 n
  | 0 => by funext a0; rfl
  | n + 1 => by
    funext a0
    rw [gq42, rr42]
    rfl
def R46 : Nat → Int → Option (ByteArray)
  | 0, _ => none
  | n + 1, a0 => r46   a0
theorem u46 (n : Nat) (a0 : Int) : R46 (n + 1) a0 = r46   a0 := rfl
theorem e46 : ∀ (n : Nat), g46 (evalF E n) = R46 n
  | 0 => by funext a0; rfl
  | n + 1 => by
    funext a0
    rw [gq46, rr46]
    rfl
def R43 : Nat → ByteArray → Option (Int × Bool)
  | 0, _ => none
  | n + 1, a0 => r43 (R46 n) (iter (F43_0 (R46 n) ) n) a0
def J43_0 (n m : Nat) : (ByteArray × Int) → Option ((ByteArray × Int) ⊕ (Int × Bool)) := iter (F43_0 (R46 n) ) m
theorem j43_0 (n m : Nat) (x : ByteArray × Int) : J43_0 n (m + 1) x = F43_0 (R46 n)  (J43_0 n m) x := rfl
theorem u43 (n : Nat) (a0 : ByteArray) : R43 (n + 1) a0 = r43 (R46 n) (J43_0 n n) a0 := rfl
theorem e43 : ∀ (n : Nat), g43 (evalF E n) = R43 n
  | 0 => by funext a0; rfl
  | n + 1 => by
    have l0 : lq43_0 (evalF E n) n n = (iter (F43_0 (R46 n) ) n) := iter_of (g := lq43_0 (evalF E n) n) rfl (fun m y => by rw [lp43_0]; simp only [e46 n]) n
    funext a0
    rw [gq43, rr43]
    simp only [e46 n, l0]
    rfl
def R59 : Nat → Int → Option (Int)
  | 0, _ => none
  | n + 1, a0 => r59  (iter (F59_0  ) n) a0
def J59_0 (n m : Nat) : (Int × Int) → Option ((Int × Int) ⊕ (Int)) := iter (F59_0  ) m
theorem j59_0 (n m : Nat) (x : Int × Int) : J59_0 n (m + 1) x = F59_0   (J59_0 n m) x := rfl
theorem u59 (n : Nat) (a0 : Int) : R59 (n + 1) a0 = r59  (J59_0 n n) a0 := rfl
theorem e59 : ∀ (n : Nat), g59 (evalF E n) = R59 n
  | 0 => by funext a0; rfl
  | n + 1 => by
    have l0 : lq59_0 (evalF E n) n n = (iter (F59_0  ) n) := iter_of (g := lq59_0 (evalF E n) n) rfl (fun m y => by rw [lp59_0]) n
    funext a0
    rw [gq59, rr59]
    simp only [l0]
    rfl
def R44 : Nat → ByteArray → Option ((List Int) × Bool)
  | 0, _ => none
  | n + 1, a0 => r44 (R59 n) (iter (F44_0 (R59 n) ) n) a0
def J44_0 (n m : Nat) : (ByteArray × Int × (List Int)) → Option ((ByteArray × Int × (List Int)) ⊕ ((List Int) × Bool)) := iter (F44_0 (R59 n) ) m
theorem j44_0 (n m : Nat) (x : ByteArray × Int × (List Int)) : J44_0 n (m + 1) x = F44_0 (R59 n)  (J44_0 n m) x := rfl
theorem u44 (n : Nat) (a0 : ByteArray) : R44 (n + 1) a0 = r44 (R59 n) (J44_0 n n) a0 := rfl
theorem e44 : ∀ (n : Nat), g44 (evalF E n) = R44 n
  | 0 => by funext a0; rfl
  | n + 1 => by
    have l0 : lq44_0 (evalF E n) n n = (iter (F44_0 (R59 n) ) n) := iter_of (g := lq44_0 (evalF E n) n) rfl (fun m y => by rw [lp44_0]; simp only [e59 n]) n
    funext a0
    rw [gq44, rr44]
    simp only [e59 n, l0]
    rfl
def R26 : Nat → (Int × (Int × (Int × (Int × (Int × (Int × ((List Int) × (List Int)))))))) → Int → ByteArray → Option ((Int × (Int × (Int × (Int × (Int × (Int × ((List Int) × (List Int)))))))) × Bool)
  | 0, _, _, _ => none
  | n + 1, a0, a1, a2 => r26 (R41 n) (R42 n) (R43 n) (R44 n)  a0 a1 a2
theorem u26 (n : Nat) (a0 : (Int × (Int × (Int × (Int × (Int × (Int × ((List Int) × (List Int))))))))) (a1 : Int) (a2 : ByteArray) : R26 (n + 1) a0 a1 a2 = r26 (R41 n) (R42 n) (R43 n) (R44 n)  a0 a1 a2 := rfl
theorem e26 : ∀ (n : Nat), g26 (evalF E n) = R26 n
  | 0 => by funext a0 a1 a2; rfl
  | n + 1 => by
    funext a0 a1 a2
    rw [gq26, rr26]
    simp only [e41 n, e42 n, e43 n, e44 n]
    rfl
def R12 : Nat → ByteArray → Option ((Int × (Int × (Int × (Int × (Int × (Int × ((List Int) × (List Int)))))))) × Int × Int)
  | 0, _ => none
  | n + 1, a0 => r12 (R23 n) (R24 n) (R25 n) (R26 n) (iter (F12_0 (R23 n) (R24 n) (R25 n) (R26 n) ) n) a0
def J12_0 (n m : Nat) : (ByteArray × (List (ByteArray × Int)) × ByteArray × Int × (Int × (Int × (Int × (Int × (Int × (Int × ((List Int) × (List Int)))))))) × (Int × (Int × (Int × (Int × (Int × (Int × ((List Int) × (List Int))))))))) → Option ((ByteArray × (List (ByteArray × Int)) × ByteArray × Int × (Int × (Int × (Int × (Int × (Int × (Int × ((List Int) × (List Int)))))))) × (Int × (Int × (Int × (Int × (Int × (Int × ((List Int) × (List Int))))))))) ⊕ ((Int × (Int × (Int × (Int × (Int × (Int × ((List Int) × (List Int)))))))) × Int × Int)) := iter (F12_0 (R23 n) (R24 n) (R25 n) (R26 n) ) m
theorem j12_0 (n m : Nat) (x : ByteArray × (List (ByteArray × Int)) × ByteArray × Int × (Int × (Int × (Int × (Int × (Int × (Int × ((List Int) × (List Int)))))))) × (Int × (Int × (Int × (Int × (Int × (Int × ((List Int) × (List Int))))))))) : J12_0 n (m + 1) x = F12_0 (R23 n) (R24 n) (R25 n) (R26 n)  (J12_0 n m) x := rfl
theorem u12 (n : Nat) (a0 : ByteArray) : R12 (n + 1) a0 = r12 (R23 n) (R24 n) (R25 n) (R26 n) (J12_0 n n) a0 := rfl
theorem e12 : ∀ (n : Nat), g12 (evalF E n) = R12 n
  | 0 => by funext a0; rfl
  | n + 1 => by
    have l0 : lq12_0 (evalF E n) n n = (iter (F12_0 (R23 n) (R24 n) (R25 n) (R26 n) ) n) := iter_of (g := lq12_0 (evalF E n) n) rfl (fun m y => by rw [lp12_0]; simp only [e23 n, e24 n, e25 n, e26 n]) n
    funext a0
    rw [gq12, rr12]
    simp only [e23 n, e24 n, e25 n, e26 n, l0]
    rfl
def R13 : Nat → (Int × (Int × (Int × (Int × (Int × (Int × ((List Int) × (List Int)))))))) → (Int × (Int × (Int × (Int × (Int × (Int × ((List Int) × (List Int)))))))) → Option (Bool)
  | 0, _, _ => none
  | n + 1, a0, a1 => r13   a0 a1
theorem u13 (n : Nat) (a0 : (Int × (Int × (Int × (Int × (Int × (Int × ((List Int) × (List Int))))))))) (a1 : (Int × (Int × (Int × (Int × (Int × (Int × ((List Int) × (List Int))))))))) : R13 (n + 1) a0 a1 = r13   a0 a1 := rfl
theorem e13 : ∀ (n : Nat), g13 (evalF E n) = R13 n
  | 0 => by funext a0 a1; rfl
  | n + 1 => by
    funext a0 a1
    rw [gq13, rr13]
    rfl
def R45 : Nat → Int → Option (ByteArray)
  | 0, _ => none
  | n + 1, a0 => r45   a0
theorem u45 (n : Nat) (a0 : Int) : R45 (n + 1) a0 = r45   a0 := rfl
theorem e45 : ∀ (n : Nat), g45 (evalF E n) = R45 n
  | 0 => by funext a0; rfl
  | n + 1 => by
    funext a0
    rw [gq45, rr45]
    rfl
def R60 : Nat → Int → Option (ByteArray)
  | 0, _ => none
  | n + 1, a0 => r60 (R60 n)  a0
theorem u60 (n : Nat) (a0 : Int) : R60 (n + 1) a0 = r60 (R60 n)  a0 := rfl
theorem e60 : ∀ (n : Nat), g60 (evalF E n) = R60 n
  | 0 => by funext a0; rfl
  | n + 1 => by
    funext a0
    rw [gq60, rr60]
    simp only [e60 n]
    rfl
def R47 : Nat → Int → Option (ByteArray)
  | 0, _ => none
  | n + 1, a0 => r47 (R60 n)  a0
theorem u47 (n : Nat) (a0 : Int) : R47 (n + 1) a0 = r47 (R60 n)  a0 := rfl
theorem e47 : ∀ (n : Nat), g47 (evalF E n) = R47 n
  | 0 => by funext a0; rfl
  | n + 1 => by
    funext a0
    rw [gq47, rr47]
    simp only [e60 n]
    rfl
def R48 : Nat → (List Int) → Option (ByteArray)
  | 0, _ => none
  | n + 1, a0 => r48  (iter (F48_0  ) n) a0
def J48_0 (n m : Nat) : ((List Int) × Int × (List Int)) → Option (((List Int) × Int × (List Int)) ⊕ (ByteArray)) := iter (F48_0  ) m
theorem j48_0 (n m : Nat) (x : (List Int) × Int × (List Int)) : J48_0 n (m + 1) x = F48_0   (J48_0 n m) x := rfl
theorem u48 (n : Nat) (a0 : (List Int)) : R48 (n + 1) a0 = r48  (J48_0 n n) a0 := rfl
theorem e48 : ∀ (n : Nat), g48 (evalF E n) = R48 n
  | 0 => by funext a0; rfl
  | n + 1 => by
    have l0 : lq48_0 (evalF E n) n n = (iter (F48_0  ) n) := iter_of (g := lq48_0 (evalF E n) n) rfl (fun m y => by rw [lp48_0]) n
    funext a0
    rw [gq48, rr48]
    simp only [l0]
    rfl
def R27 : Nat → (Int × (Int × (Int × (Int × (Int × (Int × ((List Int) × (List Int)))))))) → Int → Option (ByteArray)
  | 0, _, _ => none
  | n + 1, a0, a1 => r27 (R45 n) (R46 n) (R47 n) (R48 n)  a0 a1
theorem u27 (n : Nat) (a0 : (Int × (Int × (Int × (Int × (Int × (Int × ((List Int) × (List Int))))))))) (a1 : Int) : R27 (n + 1) a0 a1 = r27 (R45 n) (R46 n) (R47 n) (R48 n)  a0 a1 := rfl
theorem e27 : ∀ (n : Nat), g27 (evalF E n) = R27 n
  | 0 => by funext a0 a1; rfl
  | n + 1 => by
    funext a0 a1
    rw [gq27, rr27]
    simp only [e45 n, e46 n, e47 n, e48 n]
    rfl
def R14 : Nat → (Int × (Int × (Int × (Int × (Int × (Int × ((List Int) × (List Int)))))))) → Option (ByteArray × Int)
  | 0, _ => none
  | n + 1, a0 => r14 (R12 n) (R13 n) (R25 n) (R27 n) (iter (F14_0 (R12 n) (R13 n) (R25 n) (R27 n) ) n) a0
def J14_0 (n m : Nat) : (ByteArray × ByteArray × Int × (Int × (Int × (Int × (Int × (Int × (Int × ((List Int) × (List Int))))))))) → Option ((ByteArray × ByteArray × Int × (Int × (Int × (Int × (Int × (Int × (Int × ((List Int) × (List Int))))))))) ⊕ (ByteArray × Int)) := iter (F14_0 (R12 n) (R13 n) (R25 n) (R27 n) ) m
theorem j14_0 (n m : Nat) (x : ByteArray × ByteArray × Int × (Int × (Int × (Int × (Int × (Int × (Int × ((List Int) × (List Int))))))))) : J14_0 n (m + 1) x = F14_0 (R12 n) (R13 n) (R25 n) (R27 n)  (J14_0 n m) x := rfl
theorem u14 (n : Nat) (a0 : (Int × (Int × (Int × (Int × (Int × (Int × ((List Int) × (List Int))))))))) : R14 (n + 1) a0 = r14 (R12 n) (R13 n) (R25 n) (R27 n) (J14_0 n n) a0 := rfl
theorem e14 : ∀ (n : Nat), g14 (evalF E n) = R14 n
  | 0 => by funext a0; rfl
  | n + 1 => by
    have l0 : lq14_0 (evalF E n) n n = (iter (F14_0 (R12 n) (R13 n) (R25 n) (R27 n) ) n) := iter_of (g := lq14_0 (evalF E n) n) rfl (fun m y => by rw [lp14_0]; simp only [e12 n, e13 n, e25 n, e27 n]) n
    funext a0
    rw [gq14, rr14]
    simp only [e12 n, e13 n, e25 n, e27 n, l0]
    rfl
def R5 : Nat → (Int × (Int × (Int × (Int × (Int × (Int × ((List Int) × (List Int)))))))) → Option (Bool)
  | 0, _ => none
  | n + 1, a0 => r5 (R9 n) (R11 n) (R14 n)  a0
theorem u5 (n : Nat) (a0 : (Int × (Int × (Int × (Int × (Int × (Int × ((List Int) × (List Int))))))))) : R5 (n + 1) a0 = r5 (R9 n) (R11 n) (R14 n)  a0 := rfl
theorem e5 : ∀ (n : Nat), g5 (evalF E n) = R5 n
  | 0 => by funext a0; rfl
  | n + 1 => by
    funext a0
    rw [gq5, rr5]
    simp only [e9 n, e11 n, e14 n]
    rfl
theorem law_R (n : Nat) (a0 : (Int × (Int × (Int × (Int × (Int × (Int × ((List Int) × (List Int))))))))) : runHow E (evalF E n) n s5 a0 h5 = R5 (n + 1) a0 := (gq5 n a0).symm.trans (congrFun (e5 (n + 1)) a0)
theorem okAll : EntriesOK Tryd.prog LineX.XL 0 E.fns := ⟨trivial,
  trivial,
  trivial,
  trivial,
  trivial,
  ok5 LineX.XL,
  trivial,
  trivial,
  ok8 LineX.XL,
  ok9 LineX.XL,
  trivial,
  ok11 LineX.XL,
  ok12 LineX.XL,
  ok13 LineX.XL,
  ok14 LineX.XL,
  fun _ _ _ h => LineX.Split_spec h,
  ok16 LineX.XL,
  ok17 LineX.XL,
  ok18 LineX.XL,
  ok19 LineX.XL,
  ok20 LineX.XL,
  fun _ _ _ h => LineX.Join_spec h,
  ok22 LineX.XL,
  ok23 LineX.XL,
  ok24 LineX.XL,
  ok25 LineX.XL,
  ok26 LineX.XL,
  ok27 LineX.XL,
  trivial,
  ok29 LineX.XL,
  ok30 LineX.XL,
  ok31 LineX.XL,
  ok32 LineX.XL,
  ok33 LineX.XL,
  ok34 LineX.XL,
  fun _ _ _ h => LineX.Itoa_spec h,
  fun _ _ _ h => LineX.FormatInt_spec h,
  ok37 LineX.XL,
  trivial,
  trivial,
  trivial,
  ok41 LineX.XL,
  ok42 LineX.XL,
  ok43 LineX.XL,
  ok44 LineX.XL,
  ok45 LineX.XL,
  ok46 LineX.XL,
  ok47 LineX.XL,
  ok48 LineX.XL,
  trivial,
  trivial,
  trivial,
  ok52 LineX.XL,
  fun _ _ _ h => LineX.IndexByte_spec h,
  trivial,
  trivial,
  trivial,
  trivial,
  ok58 LineX.XL,
  ok59 LineX.XL,
  ok60 LineX.XL, trivial⟩
theorem mixed : Tryd.prog.follows .mixedOrders = true := by kernel_rfl
theorem calls (n : Nat) : CallOK Tryd.prog LineX.XL E (evalF E n) := evalF_sound LineX.XL_ok tys mixed (entries_fn okAll) n
end Go.Proofs.YtdmmcjefpbbceaaDoor.ELineWrites
