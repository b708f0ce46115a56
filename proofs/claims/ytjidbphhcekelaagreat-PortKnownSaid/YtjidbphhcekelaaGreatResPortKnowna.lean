import Derived.Test.YtjidbphhcekelaaGreatProg
import Derived.Test.YtjidbphhcekelaaGreatAeB
import Derived.Test.YtjidbphhcekelaaGreatNameC
import Derived.Test.YtjidbphhcekelaaGreatNameR
import Derived.Test.YtjidbphhcekelaaGreatNameX
import Derived.Test.YtjidbphhcekelaaGreatPortX
namespace Go.Proofs.YtjidbphhcekelaaGreat.EPortKnown
open Go Go.Proofs.YtjidbphhcekelaaGreat.AE
set_option maxRecDepth 100000
set_option linter.unusedVariables false
abbrev LI_ : Type := List Int
abbrev LL_ : Type := List (List Int)
abbrev HK_ : Type := List (Int × (List (List Int) × List (List Int)))
-- tatting/tattinglaw29.PortKnown
noncomputable def c3 : Code := match Tryz.f3.body with | some c => c | none => .skip
def s3 : Sig := ⟨⟨[], []⟩, ⟨[.dat .bool], []⟩⟩
def hs3 : List (List Nat × LH) := []
noncomputable def h3 : How s3 := .code Tryz.f3 c3 hs3
-- tatting/port.Diff
noncomputable def c5 : Code := match Tryz.f5.body with | some c => c | none => .skip
def s5 : Sig := ⟨⟨[.dat (.int .i64), .dat (.int .i64), .dat (.slice (.int .u8)), .dat (.slice (.int .u8)), .dat (.pair (.int .i64) (.one (.int .i64)))], []⟩, ⟨[.dat (.pair (.int .i64) (.pair (.int .i64) (.pair (.int .i64) (.pair (.int .i64) (.pair (.slice (.pair (.int .i64) (.one (.int .i64)))) (.one (.slice (.pair (.int .i64) (.pair (.slice (.slice (.int .u8))) (.one (.slice (.slice (.int .u8))))))))))))), .dat (.int .i64)], []⟩⟩
def hs5 : List (List Nat × LH) := []
noncomputable def h5 : How s5 := .code Tryz.f5 c5 hs5
-- tatting/tattinglaw29.wide
noncomputable def c6 : Code := match Tryz.f6.body with | some c => c | none => .skip
def s6 : Sig := ⟨⟨[], []⟩, ⟨[.dat (.pair (.int .i64) (.one (.int .i64)))], []⟩⟩
def hs6 : List (List Nat × LH) := []
noncomputable def h6 : How s6 := .code Tryz.f6 c6 hs6
-- tatting/port.Near
noncomputable def c7 : Code := match Tryz.f7.body with | some c => c | none => .skip
def s7 : Sig := ⟨⟨[.dat (.int .i64), .dat (.slice (.int .u8)), .dat (.slice (.int .u8)), .dat (.int .i64)], []⟩, ⟨[.dat (.int .i64), .dat (.int .i64)], []⟩⟩
def hs7 : List (List Nat × LH) := []
noncomputable def h7 : How s7 := .code Tryz.f7 c7 hs7
-- tatting/port.Apply
noncomputable def c8 : Code := match Tryz.f8.body with | some c => c | none => .skip
def s8 : Sig := ⟨⟨[.dat (.slice (.int .u8)), .dat (.slice (.int .u8))], []⟩, ⟨[.dat (.slice (.int .u8)), .dat (.int .i64), .dat (.int .i64)], []⟩⟩
def hs8 : List (List Nat × LH) := []
noncomputable def h8 : How s8 := .code Tryz.f8 c8 hs8
-- tatting/port.Undo
noncomputable def c9 : Code := match Tryz.f9.body with | some c => c | none => .skip
def s9 : Sig := ⟨⟨[.dat (.slice (.int .u8)), .dat (.slice (.int .u8))], []⟩, ⟨[.dat (.slice (.int .u8)), .dat (.int .i64), .dat (.int .i64)], []⟩⟩
def hs9 : List (List Nat × LH) := []
noncomputable def h9 : How s9 := .code Tryz.f9 c9 hs9
-- tatting/tattinglaw29.awake
noncomputable def c10 : Code := match Tryz.f10.body with | some c => c | none => .skip
def s10 : Sig := ⟨⟨[], []⟩, ⟨[.dat .bool], []⟩⟩
def hs10 : List (List Nat × LH) := []
noncomputable def h10 : How s10 := .code Tryz.f10 c10 hs10
-- tatting/port.ready
noncomputable def c13 : Code := match Tryz.f13.body with | some c => c | none => .skip
def s13 : Sig := ⟨⟨[.dat (.int .i64), .dat (.int .i64), .dat (.slice (.int .u8)), .dat (.slice (.int .u8)), .dat (.pair (.int .i64) (.one (.int .i64)))], []⟩, ⟨[.dat (.pair (.slice (.slice (.int .u8))) (.pair (.slice (.slice (.int .u8))) (.pair (.slice (.int .i64)) (.pair (.slice (.int .i64)) (.pair (.int .i64) (.pair (.int .i64) (.pair (.slice (.int .i64)) (.one (.slice (.int .i64)))))))))), .dat (.int .i64), .dat (.int .i64)], []⟩⟩
def hs13 : List (List Nat × LH) := []
noncomputable def h13 : How s13 := .code Tryz.f13 c13 hs13
-- tatting/port.run
noncomputable def c14 : Code := match Tryz.f14.body with | some c => c | none => .skip
def s14 : Sig := ⟨⟨[.dat (.int .i64), .dat (.slice (.int .i64)), .dat (.slice (.int .i64))], []⟩, ⟨[.dat (.slice (.pair (.int .i64) (.one (.int .i64)))), .dat (.int .i64)], []⟩⟩
def hs14 : List (List Nat × LH) := []
noncomputable def h14 : How s14 := .code Tryz.f14 c14 hs14
-- tatting/trim.Grow
noncomputable def c15 : Code := match Tryz.f15.body with | some c => c | none => .skip
def s15 : Sig := ⟨⟨[.dat (.slice (.pair (.int .i64) (.one (.int .i64)))), .dat (.int .i64), .dat (.int .i64), .dat (.int .i64), .dat (.int .i64)], []⟩, ⟨[.dat (.slice (.pair (.int .i64) (.one (.int .i64)))), .dat (.int .i64)], []⟩⟩
def hs15 : List (List Nat × LH) := [([0, 1, 0, 1, 1, 1], ⟨[0, 1, 2, 3, 4, 12, 49, 50], ⟨[.dat (.slice (.pair (.int .i64) (.one (.int .i64)))), .dat (.int .i64), .dat (.int .i64), .dat (.int .i64), .dat (.int .i64), .ref 0, .dat (.int .i64), .dat (.int .i64)], [.row (.pair (.int .i64) (.one (.int .i64)))]⟩, 0⟩), ([0, 1, 0, 1, 1, 1, 1], ⟨[1, 2, 3, 4, 12, 60, 61, 62], ⟨[.dat (.int .i64), .dat (.int .i64), .dat (.int .i64), .dat (.int .i64), .ref 0, .dat (.slice (.pair (.int .i64) (.one (.int .i64)))), .dat (.int .i64), .dat (.int .i64)], [.row (.pair (.int .i64) (.one (.int .i64)))]⟩, 2⟩), ([0, 1, 0, 1, 1, 1, 1, 1], ⟨[3, 4, 12, 16], ⟨[.dat (.int .i64), .dat (.int .i64), .ref 0, .dat (.int .i64)], [.row (.pair (.int .i64) (.one (.int .i64)))]⟩, 4⟩)]
noncomputable def h15 : How s15 := .code Tryz.f15 c15 hs15
-- tatting/canon.Of
noncomputable def c16 : Code := match Tryz.f16.body with | some c => c | none => .skip
def s16 : Sig := ⟨⟨[.dat (.slice (.int .i64)), .dat (.slice (.int .i64)), .dat (.slice (.pair (.int .i64) (.one (.int .i64))))], []⟩, ⟨[.dat (.slice (.pair (.int .i64) (.one (.int .i64)))), .dat (.int .i64)], []⟩⟩
def hs16 : List (List Nat × LH) := []
noncomputable def h16 : How s16 := .code Tryz.f16 c16 hs16
-- tatting/edit.Make
noncomputable def c17 : Code := match Tryz.f17.body with | some c => c | none => .skip
def s17 : Sig := ⟨⟨[.dat (.slice (.slice (.int .u8))), .dat (.slice (.slice (.int .u8))), .dat (.slice (.pair (.int .i64) (.one (.int .i64))))], []⟩, ⟨[.dat (.slice (.pair (.int .i64) (.pair (.slice (.slice (.int .u8))) (.one (.slice (.slice (.int .u8))))))), .dat (.int .i64)], []⟩⟩
def hs17 : List (List Nat × LH) := [([0, 1, 0, 1, 1, 1, 1, 1, 1], ⟨[3, 4, 11, 14, 30, 31, 32], ⟨[.ptr 0 0, .ptr 1 0, .ptr 2 0, .fnc 47 [3, 4, 2, 0, 1], .dat (.slice (.pair (.int .i64) (.one (.int .i64)))), .dat (.int .i64), .dat (.int .i64)], [.var (.slice (.slice (.int .u8))), .var (.slice (.slice (.int .u8))), .vrow (.pair (.int .i64) (.pair (.slice (.slice (.int .u8))) (.one (.slice (.slice (.int .u8)))))), .var (.int .i64), .var (.int .i64)]⟩, 0⟩)]
noncomputable def h17 : How s17 := .code Tryz.f17 c17 hs17
-- tatting/port.cut
noncomputable def c18 : Code := match Tryz.f18.body with | some c => c | none => .skip
def s18 : Sig := ⟨⟨[.dat (.int .i64), .dat (.slice (.int .u8)), .dat (.slice (.int .u8))], []⟩, ⟨[.dat (.pair (.slice (.slice (.int .u8))) (.pair (.slice (.slice (.int .u8))) (.pair (.slice (.int .i64)) (.pair (.slice (.int .i64)) (.pair (.int .i64) (.pair (.int .i64) (.pair (.slice (.int .i64)) (.one (.slice (.int .i64)))))))))), .dat (.int .i64)], []⟩⟩
def hs18 : List (List Nat × LH) := []
noncomputable def h18 : How s18 := .code Tryz.f18 c18 hs18
-- tatting/band.Within
noncomputable def c19 : Code := match Tryz.f19.body with | some c => c | none => .skip
def s19 : Sig := ⟨⟨[.dat (.slice (.int .i64)), .dat (.slice (.int .i64)), .dat (.int .i64)], []⟩, ⟨[.dat (.int .i64), .dat (.int .i64), .dat (.int .i64)], []⟩⟩
def hs19 : List (List Nat × LH) := [([0, 1, 0, 1, 1, 1, 1, 1], ⟨[0, 1, 2, 9, 10, 12, 31, 32], ⟨[.dat (.slice (.int .i64)), .dat (.slice (.int .i64)), .dat (.int .i64), .dat (.int .i64), .dat (.int .i64), .ptr 0 0, .dat (.int .i64), .dat (.int .i64)], [.var (.pair (.int .i64) (.one (.slice (.int .i64))))]⟩, 0⟩)]
noncomputable def h19 : How s19 := .code Tryz.f19 c19 hs19
-- tatting/coded.Decode
noncomputable def c20 : Code := match Tryz.f20.body with | some c => c | none => .skip
def s20 : Sig := ⟨⟨[.dat (.slice (.int .u8))], []⟩, ⟨[.dat (.int .i64), .dat (.slice (.pair (.int .i64) (.pair (.slice (.slice (.int .u8))) (.one (.slice (.slice (.int .u8))))))), .dat (.int .i64), .dat (.int .i64)], []⟩⟩
def hs20 : List (List Nat × LH) := [([0, 0, 1, 1, 1, 1], ⟨[0, 3, 6, 7], ⟨[.dat (.slice (.int .u8)), .ref 0, .ptr 1 0, .dat (.int .i64)], [.row (.pair (.int .i64) (.pair (.slice (.slice (.int .u8))) (.one (.slice (.slice (.int .u8)))))), .var (.pair (.slice (.int .u8)) (.pair (.int .i64) (.one (.int .i64))))]⟩, 0⟩)]
noncomputable def h20 : How s20 := .code Tryz.f20 c20 hs20
-- tatting/port.carry
noncomputable def c21 : Code := match Tryz.f21.body with | some c => c | none => .skip
def s21 : Sig := ⟨⟨[.dat (.int .i64), .dat (.slice (.pair (.int .i64) (.pair (.slice (.slice (.int .u8))) (.one (.slice (.slice (.int .u8))))))), .dat (.slice (.int .u8))], []⟩, ⟨[.dat (.slice (.int .u8)), .dat (.int .i64)], []⟩⟩
def hs21 : List (List Nat × LH) := []
noncomputable def h21 : How s21 := .code Tryz.f21 c21 hs21
-- tatting/patch.Invert
noncomputable def c22 : Code := match Tryz.f22.body with | some c => c | none => .skip
def s22 : Sig := ⟨⟨[.dat (.slice (.pair (.int .i64) (.pair (.slice (.slice (.int .u8))) (.one (.slice (.slice (.int .u8)))))))], []⟩, ⟨[.dat (.slice (.pair (.int .i64) (.pair (.slice (.slice (.int .u8))) (.one (.slice (.slice (.int .u8))))))), .dat (.int .i64)], []⟩⟩
def hs22 : List (List Nat × LH) := [([0, 1, 0, 1, 1, 1, 1], ⟨[4, 5, 12, 13, 14], ⟨[.ref 0, .dat (.int .i64), .dat (.slice (.pair (.int .i64) (.pair (.slice (.slice (.int .u8))) (.one (.slice (.slice (.int .u8))))))), .dat (.int .i64), .dat (.int .i64)], [.row (.pair (.int .i64) (.pair (.slice (.slice (.int .u8))) (.one (.slice (.slice (.int .u8))))))]⟩, 0⟩)]
noncomputable def h22 : How s22 := .code Tryz.f22 c22 hs22
-- tatting/port.Steps
noncomputable def c23 : Code := match Tryz.f23.body with | some c => c | none => .skip
def s23 : Sig := ⟨⟨[.dat (.int .i64), .dat (.int .i64), .dat (.slice (.int .u8)), .dat (.slice (.int .u8)), .dat (.pair (.int .i64) (.one (.int .i64)))], []⟩, ⟨[.dat (.int .i64), .dat (.int .i64), .dat (.int .i64)], []⟩⟩
def hs23 : List (List Nat × LH) := []
noncomputable def h23 : How s23 := .code Tryz.f23 c23 hs23
-- tatting/tok.Count
noncomputable def c29 : Code := match Tryz.f29.body with | some c => c | none => .skip
def s29 : Sig := ⟨⟨[.dat (.int .i64), .dat (.slice (.int .u8))], []⟩, ⟨[.dat (.int .i64), .dat (.int .i64)], []⟩⟩
def hs29 : List (List Nat × LH) := []
noncomputable def h29 : How s29 := .code Tryz.f29 c29 hs29
-- tatting/cost.Choose
noncomputable def c31 : Code := match Tryz.f31.body with | some c => c | none => .skip
def s31 : Sig := ⟨⟨[.dat (.pair (.int .i64) (.pair (.int .i64) (.pair (.int .i64) (.one (.int .i64)))))], []⟩, ⟨[.dat (.int .i64)], []⟩⟩
def hs31 : List (List Nat × LH) := [([0, 1, 0, 1, 1], ⟨[1, 3, 4, 5], ⟨[.ptr 0 0, .dat (.int .i64), .dat (.int .i64), .dat (.int .i64)], [.var (.pair (.int .i64) (.pair (.int .i64) (.pair (.int .i64) (.one (.int .i64)))))]⟩, 0⟩)]
noncomputable def h31 : How s31 := .code Tryz.f31 c31 hs31
-- tatting/cost.Fits
noncomputable def c32 : Code := match Tryz.f32.body with | some c => c | none => .skip
def s32 : Sig := ⟨⟨[.dat (.int .i64), .dat (.pair (.int .i64) (.pair (.int .i64) (.pair (.int .i64) (.one (.int .i64))))), .dat (.int .i64)], []⟩, ⟨[.dat (.int .i64)], []⟩⟩
def hs32 : List (List Nat × LH) := []
noncomputable def h32 : How s32 := .code Tryz.f32 c32 hs32
-- tatting/grid.Run
noncomputable def c33 : Code := match Tryz.f33.body with | some c => c | none => .skip
def s33 : Sig := ⟨⟨[.dat (.slice (.int .i64)), .dat (.slice (.int .i64))], []⟩, ⟨[.dat (.slice (.pair (.int .i64) (.one (.int .i64)))), .dat (.int .i64)], []⟩⟩
def hs33 : List (List Nat × LH) := [([0, 1, 0, 1, 1, 1], ⟨[0, 1, 6, 7, 8, 9], ⟨[.dat (.slice (.int .i64)), .dat (.slice (.int .i64)), .dat (.slice (.slice (.int .i64))), .ref 0, .dat (.int .i64), .dat (.int .i64)], [.row (.pair (.int .i64) (.one (.int .i64)))]⟩, 0⟩)]
noncomputable def h33 : How s33 := .code Tryz.f33 c33 hs33
-- tatting/trim.count
noncomputable def c42 : Code := match Tryz.f42.body with | some c => c | none => .skip
def s42 : Sig := ⟨⟨[.dat (.int .i64)], []⟩, ⟨[.dat .bool], []⟩⟩
def hs42 : List (List Nat × LH) := []
noncomputable def h42 : How s42 := .code Tryz.f42 c42 hs42
-- tatting/pairs.Good
noncomputable def c43 : Code := match Tryz.f43.body with | some c => c | none => .skip
def s43 : Sig := ⟨⟨[.dat (.slice (.int .i64)), .dat (.slice (.int .i64)), .dat (.slice (.pair (.int .i64) (.one (.int .i64))))], []⟩, ⟨[.dat .bool], []⟩⟩
def hs43 : List (List Nat × LH) := [([0, 1, 0, 1, 1], ⟨[0, 1, 7, 11, 12, 13], ⟨[.dat (.slice (.int .i64)), .dat (.slice (.int .i64)), .ptr 0 0, .dat (.slice (.pair (.int .i64) (.one (.int .i64)))), .dat (.int .i64), .dat (.int .i64)], [.var (.pair (.int .i64) (.one (.int .i64)))]⟩, 0⟩)]
noncomputable def h43 : How s43 := .code Tryz.f43 c43 hs43
-- tatting/grid.Len
noncomputable def c44 : Code := match Tryz.f44.body with | some c => c | none => .skip
def s44 : Sig := ⟨⟨[.dat (.slice (.int .i64)), .dat (.slice (.int .i64))], []⟩, ⟨[.dat (.int .i64)], []⟩⟩
def hs44 : List (List Nat × LH) := [([0, 1, 0, 1, 1], ⟨[0, 1, 5, 6], ⟨[.dat (.slice (.int .i64)), .dat (.slice (.int .i64)), .ref 0, .dat (.int .i64)], [.row (.int .i64)]⟩, 0⟩), ([0, 1, 1, 0, 0, 1, 0, 0, 1, 0, 1, 1], ⟨[0, 1, 5, 6, 7, 8], ⟨[.dat (.slice (.int .i64)), .dat (.slice (.int .i64)), .ref 0, .dat (.int .i64), .dat (.int .i64), .dat (.int .i64)], [.row (.int .i64)]⟩, 2⟩)]
noncomputable def h44 : How s44 := .code Tryz.f44 c44 hs44
-- tatting/least.Of
noncomputable def c45 : Code := match Tryz.f45.body with | some c => c | none => .skip
def s45 : Sig := ⟨⟨[.dat (.slice (.int .i64)), .dat (.slice (.int .i64))], []⟩, ⟨[.dat (.slice (.pair (.int .i64) (.one (.int .i64))))], []⟩⟩
def hs45 : List (List Nat × LH) := [([0, 1, 1, 1, 1], ⟨[0, 1, 5, 6, 7, 8], ⟨[.dat (.slice (.int .i64)), .dat (.slice (.int .i64)), .dat (.slice (.slice (.int .i64))), .ref 0, .dat (.int .i64), .dat (.int .i64)], [.row (.pair (.int .i64) (.one (.int .i64)))]⟩, 0⟩)]
noncomputable def h45 : How s45 := .code Tryz.f45 c45 hs45
-- tatting/names.Two
noncomputable def c46 : Code := match Tryz.f46.body with | some c => c | none => .skip
def s46 : Sig := ⟨⟨[.dat (.slice (.slice (.int .u8))), .dat (.slice (.slice (.int .u8)))], []⟩, ⟨[.dat (.slice (.int .i64)), .dat (.slice (.int .i64)), .dat (.int .i64)], []⟩⟩
def hs46 : List (List Nat × LH) := []
noncomputable def h46 : How s46 := .code Tryz.f46 c46 hs46
-- tatting/edit.Make$1
noncomputable def c47 : Code := match Tryz.f47.body with | some c => c | none => .skip
def s47 : Sig := ⟨⟨[.dat (.int .i64), .dat (.int .i64), .ptr 0 0, .ptr 1 0, .ptr 2 0, .ptr 3 0, .ptr 4 0], [.var (.int .i64), .var (.int .i64), .vrow (.pair (.int .i64) (.pair (.slice (.slice (.int .u8))) (.one (.slice (.slice (.int .u8)))))), .var (.slice (.slice (.int .u8))), .var (.slice (.slice (.int .u8)))]⟩, ⟨[], [.var (.int .i64), .var (.int .i64), .vrow (.pair (.int .i64) (.pair (.slice (.slice (.int .u8))) (.one (.slice (.slice (.int .u8)))))), .var (.slice (.slice (.int .u8))), .var (.slice (.slice (.int .u8)))]⟩⟩
def hs47 : List (List Nat × LH) := []
noncomputable def h47 : How s47 := .code Tryz.f47 c47 hs47
-- tatting/edit.tokens
noncomputable def c48 : Code := match Tryz.f48.body with | some c => c | none => .skip
def s48 : Sig := ⟨⟨[.dat (.slice (.slice (.int .u8)))], []⟩, ⟨[.dat (.slice (.slice (.int .u8)))], []⟩⟩
def hs48 : List (List Nat × LH) := [([0, 1, 0, 1, 1], ⟨[3, 6, 7, 8], ⟨[.ref 0, .dat (.slice (.slice (.int .u8))), .dat (.int .i64), .dat (.int .i64)], [.row (.slice (.int .u8))]⟩, 0⟩)]
noncomputable def h48 : How s48 := .code Tryz.f48 c48 hs48
-- tatting/tok.Cut
noncomputable def c49 : Code := match Tryz.f49.body with | some c => c | none => .skip
def s49 : Sig := ⟨⟨[.dat (.int .i64), .dat (.slice (.int .u8))], []⟩, ⟨[.dat (.slice (.slice (.int .u8))), .dat (.int .i64)], []⟩⟩
def hs49 : List (List Nat × LH) := [([0, 0, 1, 1, 1], ⟨[0, 1, 6], ⟨[.dat (.int .i64), .dat (.slice (.int .u8)), .ref 0], [.row (.slice (.int .u8))]⟩, 0⟩)]
noncomputable def h49 : How s49 := .code Tryz.f49 c49 hs49
-- tatting/trim.Of
noncomputable def c50 : Code := match Tryz.f50.body with | some c => c | none => .skip
def s50 : Sig := ⟨⟨[.dat (.slice (.int .i64)), .dat (.slice (.int .i64))], []⟩, ⟨[.dat (.int .i64), .dat (.int .i64)], []⟩⟩
def hs50 : List (List Nat × LH) := [([0, 0, 1], ⟨[0, 1, 4, 5], ⟨[.dat (.slice (.int .i64)), .dat (.slice (.int .i64)), .dat (.int .i64), .dat (.int .i64)], []⟩, 0⟩), ([0, 0, 1, 1, 1], ⟨[0, 1, 4, 5], ⟨[.dat (.slice (.int .i64)), .dat (.slice (.int .i64)), .dat (.int .i64), .dat (.int .i64)], []⟩, 2⟩)]
noncomputable def h50 : How s50 := .code Tryz.f50 c50 hs50
-- tatting/trim.Mid
noncomputable def c51 : Code := match Tryz.f51.body with | some c => c | none => .skip
def s51 : Sig := ⟨⟨[.dat (.slice (.int .i64)), .dat (.slice (.int .i64))], []⟩, ⟨[.dat (.slice (.int .i64)), .dat (.slice (.int .i64))], []⟩⟩
def hs51 : List (List Nat × LH) := []
noncomputable def h51 : How s51 := .code Tryz.f51 c51 hs51
-- tatting/band.edges
noncomputable def c52 : Code := match Tryz.f52.body with | some c => c | none => .skip
def s52 : Sig := ⟨⟨[.dat (.int .i64), .dat (.int .i64), .dat (.int .i64)], []⟩, ⟨[.dat (.int .i64), .dat (.int .i64), .dat .bool], []⟩⟩
def hs52 : List (List Nat × LH) := []
noncomputable def h52 : How s52 := .code Tryz.f52 c52 hs52
-- (tatting/band.line).at
noncomputable def c54 : Code := match Tryz.f54.body with | some c => c | none => .skip
def s54 : Sig := ⟨⟨[.dat (.pair (.int .i64) (.one (.slice (.int .i64)))), .dat (.int .i64)], []⟩, ⟨[.dat (.int .i64)], []⟩⟩
def hs54 : List (List Nat × LH) := []
noncomputable def h54 : How s54 := .code Tryz.f54 c54 hs54
-- tatting/band.Cells
noncomputable def c55 : Code := match Tryz.f55.body with | some c => c | none => .skip
def s55 : Sig := ⟨⟨[.dat (.int .i64), .dat (.int .i64), .dat (.int .i64)], []⟩, ⟨[.dat (.int .i64)], []⟩⟩
def hs55 : List (List Nat × LH) := [([0, 1, 0, 1, 1, 1, 1, 1], ⟨[0, 1, 8, 10, 11], ⟨[.dat (.int .i64), .dat (.int .i64), .dat (.int .i64), .dat (.int .i64), .dat (.int .i64)], []⟩, 0⟩)]
noncomputable def h55 : How s55 := .code Tryz.f55 c55 hs55
-- (*tatting/coded.reader).first
noncomputable def c56 : Code := match Tryz.f56.body with | some c => c | none => .skip
def s56 : Sig := ⟨⟨[.ptr 0 0], [.var (.pair (.slice (.int .u8)) (.pair (.int .i64) (.one (.int .i64))))]⟩, ⟨[.dat .bool], [.var (.pair (.slice (.int .u8)) (.pair (.int .i64) (.one (.int .i64))))]⟩⟩
def hs56 : List (List Nat × LH) := [([0, 1, 0, 1], ⟨[0, 5, 6, 7], ⟨[.ptr 0 0, .dat (.slice (.int .i64)), .dat (.int .i64), .dat (.int .i64)], [.var (.pair (.slice (.int .u8)) (.pair (.int .i64) (.one (.int .i64))))]⟩, 0⟩)]
noncomputable def h56 : How s56 := .code Tryz.f56 c56 hs56
-- (*tatting/coded.reader).line
noncomputable def c57 : Code := match Tryz.f57.body with | some c => c | none => .skip
def s57 : Sig := ⟨⟨[.ptr 0 0], [.var (.pair (.slice (.int .u8)) (.pair (.int .i64) (.one (.int .i64))))]⟩, ⟨[.dat (.int .i64), .dat (.int .i64), .dat (.int .i64), .dat .bool], [.var (.pair (.slice (.int .u8)) (.pair (.int .i64) (.one (.int .i64))))]⟩⟩
def hs57 : List (List Nat × LH) := []
noncomputable def h57 : How s57 := .code Tryz.f57 c57 hs57
-- (*tatting/coded.reader).tokens
noncomputable def c58 : Code := match Tryz.f58.body with | some c => c | none => .skip
def s58 : Sig := ⟨⟨[.ptr 0 0, .dat (.int .i64)], [.var (.pair (.slice (.int .u8)) (.pair (.int .i64) (.one (.int .i64))))]⟩, ⟨[.dat (.slice (.slice (.int .u8))), .dat (.int .i64), .dat .bool], [.var (.pair (.slice (.int .u8)) (.pair (.int .i64) (.one (.int .i64))))]⟩⟩
def hs58 : List (List Nat × LH) := [([0, 1, 0, 1], ⟨[0, 4, 10, 11], ⟨[.ptr 0 0, .ref 1, .dat (.int .i64), .dat (.int .i64)], [.var (.pair (.slice (.int .u8)) (.pair (.int .i64) (.one (.int .i64)))), .row (.slice (.int .u8))]⟩, 0⟩)]
noncomputable def h58 : How s58 := .code Tryz.f58 c58 hs58
-- (*tatting/coded.reader).text
noncomputable def c59 : Code := match Tryz.f59.body with | some c => c | none => .skip
def s59 : Sig := ⟨⟨[.ptr 0 0, .dat .str], [.var (.pair (.slice (.int .u8)) (.pair (.int .i64) (.one (.int .i64))))]⟩, ⟨[.dat .bool], [.var (.pair (.slice (.int .u8)) (.pair (.int .i64) (.one (.int .i64))))]⟩⟩
def hs59 : List (List Nat × LH) := []
noncomputable def h59 : How s59 := .code Tryz.f59 c59 hs59
-- tatting/patch.Apply
noncomputable def c60 : Code := match Tryz.f60.body with | some c => c | none => .skip
def s60 : Sig := ⟨⟨[.dat (.slice (.pair (.int .i64) (.pair (.slice (.slice (.int .u8))) (.one (.slice (.slice (.int .u8))))))), .dat (.slice (.slice (.int .u8)))], []⟩, ⟨[.dat (.slice (.slice (.int .u8))), .dat (.int .i64)], []⟩⟩
def hs60 : List (List Nat × LH) := [([0, 1, 0, 1, 1, 1, 1], ⟨[1, 6, 7, 13, 14, 15], ⟨[.dat (.slice (.slice (.int .u8))), .ref 0, .dat (.int .i64), .dat (.slice (.pair (.int .i64) (.pair (.slice (.slice (.int .u8))) (.one (.slice (.slice (.int .u8))))))), .dat (.int .i64), .dat (.int .i64)], [.row (.slice (.int .u8))]⟩, 0⟩)]
noncomputable def h60 : How s60 := .code Tryz.f60 c60 hs60
-- tatting/tok.Join
noncomputable def c61 : Code := match Tryz.f61.body with | some c => c | none => .skip
def s61 : Sig := ⟨⟨[.dat (.slice (.slice (.int .u8)))], []⟩, ⟨[.dat (.slice (.int .u8))], []⟩⟩
def hs61 : List (List Nat × LH) := [([0, 1, 0, 1, 1], ⟨[3, 6, 7, 8], ⟨[.ref 0, .dat (.slice (.slice (.int .u8))), .dat (.int .i64), .dat (.int .i64)], [.row (.int .u8)]⟩, 0⟩)]
noncomputable def h61 : How s61 := .code Tryz.f61 c61 hs61
-- tatting/edit.Good
noncomputable def c62 : Code := match Tryz.f62.body with | some c => c | none => .skip
def s62 : Sig := ⟨⟨[.dat (.slice (.pair (.int .i64) (.pair (.slice (.slice (.int .u8))) (.one (.slice (.slice (.int .u8)))))))], []⟩, ⟨[.dat .bool], []⟩⟩
def hs62 : List (List Nat × LH) := [([0, 1, 0, 1, 1], ⟨[3, 6, 7, 8], ⟨[.dat (.int .i64), .dat (.slice (.pair (.int .i64) (.pair (.slice (.slice (.int .u8))) (.one (.slice (.slice (.int .u8))))))), .dat (.int .i64), .dat (.int .i64)], []⟩, 0⟩)]
noncomputable def h62 : How s62 := .code Tryz.f62 c62 hs62
-- tatting/patch.more
noncomputable def c63 : Code := match Tryz.f63.body with | some c => c | none => .skip
def s63 : Sig := ⟨⟨[.ref 0, .dat (.slice (.slice (.int .u8)))], [.row (.slice (.int .u8))]⟩, ⟨[.ref 1], [.dead, .row (.slice (.int .u8))]⟩⟩
def hs63 : List (List Nat × LH) := [([0, 1, 0, 1], ⟨[0, 7, 8, 9], ⟨[.ref 1, .dat (.slice (.slice (.int .u8))), .dat (.int .i64), .dat (.int .i64)], [.dead, .row (.slice (.int .u8))]⟩, 0⟩)]
noncomputable def h63 : How s63 := .code Tryz.f63 c63 hs63
-- bytes.Count
noncomputable def c70 : Code := match Tryz.f70.body with | some c => c | none => .skip
def s70 : Sig := ⟨⟨[.dat (.slice (.int .u8)), .dat (.slice (.int .u8))], []⟩, ⟨[.dat (.int .i64)], []⟩⟩
def hs70 : List (List Nat × LH) := [([0, 1, 1, 1, 1], ⟨[0, 1, 5], ⟨[.dat (.slice (.int .u8)), .dat (.slice (.int .u8)), .dat (.int .i64)], []⟩, 0⟩)]
noncomputable def h70 : How s70 := .code Tryz.f70 c70 hs70
-- tatting/cost.Work
noncomputable def c71 : Code := match Tryz.f71.body with | some c => c | none => .skip
def s71 : Sig := ⟨⟨[.dat (.int .i64), .dat (.pair (.int .i64) (.pair (.int .i64) (.pair (.int .i64) (.one (.int .i64)))))], []⟩, ⟨[.dat (.int .i64), .dat (.int .i64)], []⟩⟩
def hs71 : List (List Nat × LH) := []
noncomputable def h71 : How s71 := .code Tryz.f71 c71 hs71
-- tatting/cost.Room
noncomputable def c72 : Code := match Tryz.f72.body with | some c => c | none => .skip
def s72 : Sig := ⟨⟨[.dat (.int .i64), .dat (.pair (.int .i64) (.pair (.int .i64) (.pair (.int .i64) (.one (.int .i64)))))], []⟩, ⟨[.dat (.int .i64), .dat (.int .i64)], []⟩⟩
def hs72 : List (List Nat × LH) := []
noncomputable def h72 : How s72 := .code Tryz.f72 c72 hs72
-- tatting/pairs.is
noncomputable def c97 : Code := match Tryz.f97.body with | some c => c | none => .skip
def s97 : Sig := ⟨⟨[.dat (.slice (.int .i64)), .dat (.int .i64)], []⟩, ⟨[.dat .bool], []⟩⟩
def hs97 : List (List Nat × LH) := []
noncomputable def h97 : How s97 := .code Tryz.f97 c97 hs97
-- tatting/least.next
noncomputable def c98 : Code := match Tryz.f98.body with | some c => c | none => .skip
def s98 : Sig := ⟨⟨[.dat (.slice (.slice (.int .i64))), .dat (.slice (.int .i64)), .dat (.slice (.int .i64)), .dat (.int .i64), .dat (.int .i64)], []⟩, ⟨[.dat (.pair (.int .i64) (.one (.int .i64))), .dat .bool], []⟩⟩
def hs98 : List (List Nat × LH) := [([0, 1, 0, 0, 1, 0, 0, 1, 0, 1, 1, 1], ⟨[0, 1, 2, 4, 10, 12, 13, 14], ⟨[.dat (.slice (.slice (.int .i64))), .dat (.slice (.int .i64)), .dat (.slice (.int .i64)), .dat (.int .i64), .ptr 0 0, .dat (.int .i64), .dat (.int .i64), .dat (.int .i64)], [.var (.pair (.int .i64) (.one (.int .i64)))]⟩, 2⟩), ([0, 1, 0, 1, 1, 1], ⟨[0, 1, 2, 4, 10, 12, 13], ⟨[.dat (.slice (.slice (.int .i64))), .dat (.slice (.int .i64)), .dat (.slice (.int .i64)), .dat (.int .i64), .ptr 0 0, .dat (.int .i64), .dat (.int .i64)], [.var (.pair (.int .i64) (.one (.int .i64)))]⟩, 0⟩)]
noncomputable def h98 : How s98 := .code Tryz.f98 c98 hs98
-- tatting/names.Sort
noncomputable def c99 : Code := match Tryz.f99.body with | some c => c | none => .skip
def s99 : Sig := ⟨⟨[.dat (.slice (.slice (.int .u8)))], []⟩, ⟨[.dat (.slice (.slice (.int .u8)))], []⟩⟩
def hs99 : List (List Nat × LH) := [([0, 1, 0, 1, 1, 1, 1, 1], ⟨[4, 16, 17, 18], ⟨[.ref 0, .ref 1, .dat (.int .i64), .dat (.int .i64)], [.row (.slice (.int .u8)), .row (.slice (.int .u8))]⟩, 0⟩)]
noncomputable def h99 : How s99 := .code Tryz.f99 c99 hs99
-- slices.Concat[[][]byte,[]byte]
noncomputable def c100 : Code := match Tryz.f100.body with | some c => c | none => .skip
def s100 : Sig := ⟨⟨[.dat (.slice (.slice (.slice (.int .u8))))], []⟩, ⟨[.dat (.slice (.slice (.int .u8)))], []⟩⟩
def hs100 : List (List Nat × LH) := [([0, 1, 0, 1, 1], ⟨[0, 3, 9, 10, 11], ⟨[.dat (.slice (.slice (.slice (.int .u8)))), .dat (.int .i64), .dat (.slice (.slice (.slice (.int .u8)))), .dat (.int .i64), .dat (.int .i64)], []⟩, 0⟩), ([0, 1, 0, 1, 1, 1, 1], ⟨[6, 25, 26, 27], ⟨[.ref 0, .dat (.slice (.slice (.slice (.int .u8)))), .dat (.int .i64), .dat (.int .i64)], [.row (.slice (.int .u8))]⟩, 2⟩)]
noncomputable def h100 : How s100 := .code Tryz.f100 c100 hs100
-- tatting/names.Ids
noncomputable def c101 : Code := match Tryz.f101.body with | some c => c | none => .skip
def s101 : Sig := ⟨⟨[.dat (.slice (.slice (.int .u8))), .dat (.slice (.slice (.int .u8)))], []⟩, ⟨[.dat (.slice (.int .i64)), .dat .bool], []⟩⟩
def hs101 : List (List Nat × LH) := [([0, 1, 0, 1, 1], ⟨[0, 6, 14, 15, 16], ⟨[.dat (.slice (.slice (.int .u8))), .ref 0, .dat (.slice (.slice (.int .u8))), .dat (.int .i64), .dat (.int .i64)], [.row (.int .i64)]⟩, 0⟩)]
noncomputable def h101 : How s101 := .code Tryz.f101 c101 hs101
-- tatting/tok.isMode
noncomputable def c103 : Code := match Tryz.f103.body with | some c => c | none => .skip
def s103 : Sig := ⟨⟨[.dat (.int .i64)], []⟩, ⟨[.dat .bool], []⟩⟩
def hs103 : List (List Nat × LH) := []
noncomputable def h103 : How s103 := .code Tryz.f103 c103 hs103
-- bytes.IndexByte
noncomputable def c104 : Code := match Tryz.f104.body with | some c => c | none => .skip
def s104 : Sig := ⟨⟨[.dat (.slice (.int .u8)), .dat (.int .u8)], []⟩, ⟨[.dat (.int .i64)], []⟩⟩
def hs104 : List (List Nat × LH) := []
noncomputable def h104 : How s104 := .code Tryz.f104 c104 hs104
-- tatting/band.is
noncomputable def c106 : Code := match Tryz.f106.body with | some c => c | none => .skip
def s106 : Sig := ⟨⟨[.dat (.int .i64)], []⟩, ⟨[.dat .bool], []⟩⟩
def hs106 : List (List Nat × LH) := []
noncomputable def h106 : How s106 := .code Tryz.f106 c106 hs106
-- tatting/tok.Name
noncomputable def c107 : Code := match Tryz.f107.body with | some c => c | none => .skip
def s107 : Sig := ⟨⟨[.dat (.int .i64)], []⟩, ⟨[.dat .str], []⟩⟩
def hs107 : List (List Nat × LH) := []
noncomputable def h107 : How s107 := .code Tryz.f107 c107 hs107
-- (*tatting/coded.reader).number
noncomputable def c108 : Code := match Tryz.f108.body with | some c => c | none => .skip
def s108 : Sig := ⟨⟨[.ptr 0 0], [.var (.pair (.slice (.int .u8)) (.pair (.int .i64) (.one (.int .i64))))]⟩, ⟨[.dat (.int .i64), .dat .bool], [.var (.pair (.slice (.int .u8)) (.pair (.int .i64) (.one (.int .i64))))]⟩⟩
def hs108 : List (List Nat × LH) := [([0, 0, 1, 1], ⟨[0, 4, 5], ⟨[.ptr 0 0, .dat (.int .i64), .dat (.int .i64)], [.var (.pair (.slice (.int .u8)) (.pair (.int .i64) (.one (.int .i64))))]⟩, 0⟩)]
noncomputable def h108 : How s108 := .code Tryz.f108 c108 hs108
-- (*tatting/coded.reader).token
noncomputable def c109 : Code := match Tryz.f109.body with | some c => c | none => .skip
def s109 : Sig := ⟨⟨[.ptr 0 0], [.var (.pair (.slice (.int .u8)) (.pair (.int .i64) (.one (.int .i64))))]⟩, ⟨[.dat (.slice (.int .u8)), .dat .bool], [.var (.pair (.slice (.int .u8)) (.pair (.int .i64) (.one (.int .i64))))]⟩⟩
def hs109 : List (List Nat × LH) := []
noncomputable def h109 : How s109 := .code Tryz.f109 c109 hs109
-- bytes.HasPrefix
noncomputable def c110 : Code := match Tryz.f110.body with | some c => c | none => .skip
def s110 : Sig := ⟨⟨[.dat (.slice (.int .u8)), .dat (.slice (.int .u8))], []⟩, ⟨[.dat .bool], []⟩⟩
def hs110 : List (List Nat × LH) := []
noncomputable def h110 : How s110 := .code Tryz.f110 c110 hs110
-- tatting/patch.stands
noncomputable def c111 : Code := match Tryz.f111.body with | some c => c | none => .skip
def s111 : Sig := ⟨⟨[.dat (.slice (.slice (.int .u8))), .dat (.slice (.slice (.int .u8))), .dat (.int .i64)], []⟩, ⟨[.dat .bool], []⟩⟩
def hs111 : List (List Nat × LH) := []
noncomputable def h111 : How s111 := .code Tryz.f111 c111 hs111
-- tatting/edit.all
noncomputable def c112 : Code := match Tryz.f112.body with | some c => c | none => .skip
def s112 : Sig := ⟨⟨[.dat (.slice (.slice (.int .u8)))], []⟩, ⟨[.dat .bool], []⟩⟩
def hs112 : List (List Nat × LH) := [([0, 1, 0, 1], ⟨[5, 6, 7], ⟨[.dat (.slice (.slice (.int .u8))), .dat (.int .i64), .dat (.int .i64)], []⟩, 0⟩)]
noncomputable def h112 : How s112 := .code Tryz.f112 c112 hs112
-- unicode/utf8.RuneCount
noncomputable def c115 : Code := match Tryz.f115.body with | some c => c | none => .skip
def s115 : Sig := ⟨⟨[.dat (.slice (.int .u8))], []⟩, ⟨[.dat (.int .i64)], []⟩⟩
def hs115 : List (List Nat × LH) := [([0, 0, 1, 1, 1], ⟨[0, 3, 4], ⟨[.dat (.slice (.int .u8)), .dat (.int .i64), .dat (.int .i64)], []⟩, 0⟩)]
noncomputable def h115 : How s115 := .code Tryz.f115 c115 hs115
-- bytes.Index
noncomputable def c117 : Code := match Tryz.f117.body with | some c => c | none => .skip
def s117 : Sig := ⟨⟨[.dat (.slice (.int .u8)), .dat (.slice (.int .u8))], []⟩, ⟨[.dat (.int .i64)], []⟩⟩
def hs117 : List (List Nat × LH) := [([0, 0, 1, 1, 1, 1, 1, 1, 0, 1, 1, 1, 1, 1, 1, 1, 1, 1, 0, 0, 1, 1], ⟨[0, 1, 5, 6, 7, 8, 9, 10], ⟨[.dat (.slice (.int .u8)), .dat (.slice (.int .u8)), .dat (.int .i64), .dat (.int .u8), .dat (.int .u8), .dat (.int .i64), .dat (.int .i64), .dat (.int .i64)], []⟩, 1⟩), ([0, 0, 1, 1, 1, 1, 1, 1, 1, 1], ⟨[0, 1, 5, 13, 14, 15, 16, 17], ⟨[.dat (.slice (.int .u8)), .dat (.slice (.int .u8)), .dat (.int .i64), .dat (.int .u8), .dat (.int .u8), .dat (.int .i64), .dat (.int .i64), .dat (.int .i64)], []⟩, 3⟩)]
noncomputable def h117 : How s117 := .code Tryz.f117 c117 hs117
-- tatting/cost.ask
noncomputable def c118 : Code := match Tryz.f118.body with | some c => c | none => .skip
def s118 : Sig := ⟨⟨[.dat (.int .i64), .dat (.pair (.int .i64) (.pair (.int .i64) (.pair (.int .i64) (.one (.int .i64)))))], []⟩, ⟨[.dat .bool], []⟩⟩
def hs118 : List (List Nat × LH) := []
noncomputable def h118 : How s118 := .code Tryz.f118 c118 hs118
-- tatting/cost.up
noncomputable def c119 : Code := match Tryz.f119.body with | some c => c | none => .skip
def s119 : Sig := ⟨⟨[.dat (.int .i64), .dat (.int .i64)], []⟩, ⟨[.dat (.int .i64)], []⟩⟩
def hs119 : List (List Nat × LH) := []
noncomputable def h119 : How s119 := .code Tryz.f119 c119 hs119
-- tatting/cost.digits
noncomputable def c120 : Code := match Tryz.f120.body with | some c => c | none => .skip
def s120 : Sig := ⟨⟨[.dat (.int .i64)], []⟩, ⟨[.dat (.int .i64)], []⟩⟩
def hs120 : List (List Nat × LH) := []
noncomputable def h120 : How s120 := .code Tryz.f120 c120 hs120
-- bytes.Compare
noncomputable def c143 : Code := match Tryz.f143.body with | some c => c | none => .skip
def s143 : Sig := ⟨⟨[.dat (.slice (.int .u8)), .dat (.slice (.int .u8))], []⟩, ⟨[.dat (.int .i64)], []⟩⟩
def hs143 : List (List Nat × LH) := []
noncomputable def h143 : How s143 := .code Tryz.f143 c143 hs143
-- bytes.Equal
noncomputable def c145 : Code := match Tryz.f145.body with | some c => c | none => .skip
def s145 : Sig := ⟨⟨[.dat (.slice (.int .u8)), .dat (.slice (.int .u8))], []⟩, ⟨[.dat .bool], []⟩⟩
def hs145 : List (List Nat × LH) := []
noncomputable def h145 : How s145 := .code Tryz.f145 c145 hs145
-- tatting/names.Find
noncomputable def c147 : Code := match Tryz.f147.body with | some c => c | none => .skip
def s147 : Sig := ⟨⟨[.dat (.slice (.slice (.int .u8))), .dat (.slice (.int .u8))], []⟩, ⟨[.dat (.int .i64), .dat .bool], []⟩⟩
def hs147 : List (List Nat × LH) := []
noncomputable def h147 : How s147 := .code Tryz.f147 c147 hs147
-- tatting/tok.Is
noncomputable def c149 : Code := match Tryz.f149.body with | some c => c | none => .skip
def s149 : Sig := ⟨⟨[.dat (.int .i64), .dat (.slice (.int .u8))], []⟩, ⟨[.dat .bool], []⟩⟩
def hs149 : List (List Nat × LH) := []
noncomputable def h149 : How s149 := .code Tryz.f149 c149 hs149
-- slices.EqualFunc[[][]byte,[][]byte,[]byte,[]byte]
noncomputable def c150 : Code := match Tryz.f150.body with | some c => c | none => .skip
def s150 : Sig := ⟨⟨[.dat (.slice (.slice (.int .u8))), .dat (.slice (.slice (.int .u8))), .fnc 145 []], []⟩, ⟨[.dat .bool], []⟩⟩
def hs150 : List (List Nat × LH) := [([0, 1, 0, 1, 1], ⟨[1, 2, 15, 16, 17], ⟨[.dat (.slice (.slice (.int .u8))), .fnc 145 [], .dat (.slice (.slice (.int .u8))), .dat (.int .i64), .dat (.int .i64)], []⟩, 0⟩)]
noncomputable def h150 : How s150 := .code Tryz.f150 c150 hs150
-- unicode/utf8.RuneCountInString
noncomputable def c151 : Code := match Tryz.f151.body with | some c => c | none => .skip
def s151 : Sig := ⟨⟨[.dat .str], []⟩, ⟨[.dat (.int .i64)], []⟩⟩
def hs151 : List (List Nat × LH) := [([0, 1, 0, 1], ⟨[2, 4], ⟨[.dat (.int .i64), .skip], []⟩, 0⟩)]
noncomputable def h151 : How s151 := .code Tryz.f151 c151 hs151
-- internal/bytealg.Cutover
noncomputable def c153 : Code := match Tryz.f153.body with | some c => c | none => .skip
def s153 : Sig := ⟨⟨[.dat (.int .i64)], []⟩, ⟨[.dat (.int .i64)], []⟩⟩
def hs153 : List (List Nat × LH) := []
noncomputable def h153 : How s153 := .code Tryz.f153 c153 hs153
-- internal/bytealg.IndexRabinKarp[[]byte]
noncomputable def c154 : Code := match Tryz.f154.body with | some c => c | none => .skip
def s154 : Sig := ⟨⟨[.dat (.slice (.int .u8)), .dat (.slice (.int .u8))], []⟩, ⟨[.dat (.int .i64)], []⟩⟩
def hs154 : List (List Nat × LH) := [([0, 1, 0, 1, 1, 1, 1], ⟨[0, 1, 5, 6, 7, 8, 9], ⟨[.dat (.slice (.int .u8)), .dat (.slice (.int .u8)), .dat (.int .u32), .dat (.int .u32), .dat (.int .i64), .dat (.int .u32), .dat (.int .i64)], []⟩, 0⟩), ([0, 1, 0, 1, 1, 1, 1, 1, 1], ⟨[0, 1, 5, 6, 7, 8, 10], ⟨[.dat (.slice (.int .u8)), .dat (.slice (.int .u8)), .dat (.int .u32), .dat (.int .u32), .dat (.int .i64), .dat (.int .u32), .dat (.int .i64)], []⟩, 2⟩)]
noncomputable def h154 : How s154 := .code Tryz.f154 c154 hs154
-- tatting/cost.Right
noncomputable def c155 : Code := match Tryz.f155.body with | some c => c | none => .skip
def s155 : Sig := ⟨⟨[.dat (.pair (.int .i64) (.pair (.int .i64) (.pair (.int .i64) (.one (.int .i64)))))], []⟩, ⟨[.dat .bool], []⟩⟩
def hs155 : List (List Nat × LH) := []
noncomputable def h155 : How s155 := .code Tryz.f155 c155 hs155
-- math/bits.Len
noncomputable def c156 : Code := match Tryz.f156.body with | some c => c | none => .skip
def s156 : Sig := ⟨⟨[.dat (.int .u64)], []⟩, ⟨[.dat (.int .i64)], []⟩⟩
def hs156 : List (List Nat × LH) := []
noncomputable def h156 : How s156 := .code Tryz.f156 c156 hs156
-- slices.BinarySearchFunc[[][]byte,[]byte,[]byte]
noncomputable def c176 : Code := match Tryz.f176.body with | some c => c | none => .skip
def s176 : Sig := ⟨⟨[.dat (.slice (.slice (.int .u8))), .dat (.slice (.int .u8)), .fnc 143 []], []⟩, ⟨[.dat (.int .i64), .dat .bool], []⟩⟩
def hs176 : List (List Nat × LH) := [([0, 0, 1, 1, 1], ⟨[0, 1, 2, 8, 9, 10], ⟨[.dat (.slice (.slice (.int .u8))), .dat (.slice (.int .u8)), .fnc 143 [], .dat (.int .i64), .dat (.int .i64), .dat (.int .i64)], []⟩, 0⟩)]
noncomputable def h176 : How s176 := .code Tryz.f176 c176 hs176
-- internal/bytealg.hashStr[[]byte]
noncomputable def c177 : Code := match Tryz.f177.body with | some c => c | none => .skip
def s177 : Sig := ⟨⟨[.dat (.slice (.int .u8))], []⟩, ⟨[.dat (.int .u32), .dat (.int .u32)], []⟩⟩
def hs177 : List (List Nat × LH) := [([0, 1, 0, 1, 1], ⟨[0, 4, 5], ⟨[.dat (.slice (.int .u8)), .dat (.int .u32), .dat (.int .i64)], []⟩, 0⟩), ([0, 1, 0, 1, 1, 1, 1], ⟨[4, 6, 7, 8], ⟨[.dat (.int .u32), .dat (.int .u32), .dat (.int .u32), .dat (.int .i64)], []⟩, 2⟩)]
noncomputable def h177 : How s177 := .code Tryz.f177 c177 hs177
-- tatting/cost.is
noncomputable def c178 : Code := match Tryz.f178.body with | some c => c | none => .skip
def s178 : Sig := ⟨⟨[.dat (.int .i64)], []⟩, ⟨[.dat .bool], []⟩⟩
def hs178 : List (List Nat × LH) := []
noncomputable def h178 : How s178 := .code Tryz.f178 c178 hs178
-- math/bits.Len32
noncomputable def c179 : Code := match Tryz.f179.body with | some c => c | none => .skip
def s179 : Sig := ⟨⟨[.dat (.int .u32)], []⟩, ⟨[.dat (.int .i64)], []⟩⟩
def hs179 : List (List Nat × LH) := []
noncomputable def h179 : How s179 := .code Tryz.f179 c179 hs179
-- math/bits.Len64
noncomputable def c180 : Code := match Tryz.f180.body with | some c => c | none => .skip
def s180 : Sig := ⟨⟨[.dat (.int .u64)], []⟩, ⟨[.dat (.int .i64)], []⟩⟩
def hs180 : List (List Nat × LH) := []
noncomputable def h180 : How s180 := .code Tryz.f180 c180 hs180
-- tatting/cost.Of
def s30 : Sig := ⟨⟨[.dat (.slice (.int .i64)), .dat (.slice (.int .i64))], []⟩, ⟨[.dat (.pair (.int .i64) (.pair (.int .i64) (.pair (.int .i64) (.one (.int .i64)))))], []⟩⟩
def h30 : How s30 := .orc (fun _ x => PortX.shapeO x)
-- tatting/band.next
def s53 : Sig := ⟨⟨[.dat (.slice (.int .i64)), .dat (.slice (.int .i64)), .dat (.int .i64), .dat (.int .i64), .dat (.int .i64), .dat (.pair (.int .i64) (.one (.slice (.int .i64))))], []⟩, ⟨[.dat (.pair (.int .i64) (.one (.slice (.int .i64))))], []⟩⟩
def h53 : How s53 := .orc (fun _ x => PortX.nextB x)
-- tatting/grid.Behind
def s73 : Sig := ⟨⟨[.dat (.slice (.int .i64)), .dat (.slice (.int .i64))], []⟩, ⟨[.dat (.slice (.slice (.int .i64)))], []⟩⟩
def h73 : How s73 := .orc (fun _ x => PortX.behG x)
-- bytes.Clone
def s102 : Sig := ⟨⟨[.dat (.slice (.int .u8))], []⟩, ⟨[.dat (.slice (.int .u8))], []⟩⟩
def h102 : How s102 := .orc (fun _ x => BytesX.cloneB x)
-- slices.Clone[[]int,int]
def s105 : Sig := ⟨⟨[.dat (.slice (.int .i64))], []⟩, ⟨[.dat (.slice (.int .i64))], []⟩⟩
def h105 : How s105 := .orc (fun _ x => PortX.cloneI x)
-- internal/bytealg.Count
def s116 : Sig := ⟨⟨[.dat (.slice (.int .u8)), .dat (.int .u8)], []⟩, ⟨[.dat (.int .i64)], []⟩⟩
def h116 : How s116 := .orc (fun _ x => PortX.countB x)
-- slices.Clone[[][]byte,[]byte]
def s141 : Sig := ⟨⟨[.dat (.slice (.slice (.int .u8)))], []⟩, ⟨[.ref 0], [.row (.slice (.int .u8))]⟩⟩
def h141 : How s141 := .orc (fun _ x => NameX.cloneR x)
-- slices.SortFunc[[][]byte,[]byte]
def s142 : Sig := ⟨⟨[.ref 0, .fnc 143 []], [.row (.slice (.int .u8))]⟩, ⟨[], [.row (.slice (.int .u8))]⟩⟩
def h142 : How s142 := .orc (fun _ x => NameX.sortR x)
-- slices.CompactFunc[[][]byte,[]byte]
def s144 : Sig := ⟨⟨[.ref 0, .fnc 145 []], [.row (.slice (.int .u8))]⟩, ⟨[.ref 1], [.dead, .row (.slice (.int .u8))]⟩⟩
def h144 : How s144 := .orc (fun _ x => NameX.compactR x)
-- slices.Grow[[][]byte,[]byte]
def s146 : Sig := ⟨⟨[.ref 0, .dat (.int .i64)], [.row (.slice (.int .u8))]⟩, ⟨[.ref 1], [.dead, .row (.slice (.int .u8))]⟩⟩
def h146 : How s146 := .orc (fun _ x => NameX.growR x)
-- internal/bytealg.IndexByte
def s148 : Sig := ⟨⟨[.dat (.slice (.int .u8)), .dat (.int .u8)], []⟩, ⟨[.dat (.int .i64)], []⟩⟩
def h148 : How s148 := .orc (fun _ x => BytesX.indexB x)
-- internal/bytealg.Compare
def s175 : Sig := ⟨⟨[.dat (.slice (.int .u8)), .dat (.slice (.int .u8))], []⟩, ⟨[.dat (.int .i64)], []⟩⟩
def h175 : How s175 := .orc (fun _ x => NameX.cmpB x)
noncomputable def E : Env := {
  fns := [⟨Sig.none, .none⟩,
    ⟨Sig.none, .none⟩,
    ⟨Sig.none, .none⟩,
    ⟨s3, h3⟩,
    ⟨Sig.none, .none⟩,
    ⟨s5, h5⟩,
    ⟨s6, h6⟩,
    ⟨s7, h7⟩,
    ⟨s8, h8⟩,
    ⟨s9, h9⟩,
    ⟨s10, h10⟩,
    ⟨Sig.none, .none⟩,
    ⟨Sig.none, .none⟩,
    ⟨s13, h13⟩,
    ⟨s14, h14⟩,
    ⟨s15, h15⟩,
    ⟨s16, h16⟩,
    ⟨s17, h17⟩,
    ⟨s18, h18⟩,
    ⟨s19, h19⟩,
    ⟨s20, h20⟩,
    ⟨s21, h21⟩,
    ⟨s22, h22⟩,
    ⟨s23, h23⟩,
    ⟨Sig.none, .none⟩,
    ⟨Sig.none, .none⟩,
    ⟨Sig.none, .none⟩,
    ⟨Sig.none, .none⟩,
    ⟨Sig.none, .none⟩,
    ⟨s29, h29⟩,
    ⟨s30, h30⟩,
    ⟨s31, h31⟩,
    ⟨s32, h32⟩,
    ⟨s33, h33⟩,
    ⟨Sig.none, .none⟩,
    ⟨Sig.none, .none⟩,
    ⟨Sig.none, .none⟩,
    ⟨Sig.none, .none⟩,
    ⟨Sig.none, .none⟩,
    ⟨Sig.none, .none⟩,
    ⟨Sig.none, .none⟩,
    ⟨Sig.none, .none⟩,
    ⟨s42, h42⟩,
    ⟨s43, h43⟩,
    ⟨s44, h44⟩,
    ⟨s45, h45⟩,
    ⟨s46, h46⟩,
    ⟨s47, h47⟩,
    ⟨s48, h48⟩,
    ⟨s49, h49⟩,
    ⟨s50, h50⟩,
    ⟨s51, h51⟩,
    ⟨s52, h52⟩,
    ⟨s53, h53⟩,
    ⟨s54, h54⟩,
    ⟨s55, h55⟩,
    ⟨s56, h56⟩,
    ⟨s57, h57⟩,
    ⟨s58, h58⟩,
    ⟨s59, h59⟩,
    ⟨s60, h60⟩,
    ⟨s61, h61⟩,
    ⟨s62, h62⟩,
    ⟨s63, h63⟩,
    ⟨Sig.none, .none⟩,
    ⟨Sig.none, .none⟩,
    ⟨Sig.none, .none⟩,
    ⟨Sig.none, .none⟩,
    ⟨Sig.none, .none⟩,
    ⟨Sig.none, .none⟩,
    ⟨s70, h70⟩,
    ⟨s71, h71⟩,
    ⟨s72, h72⟩,
    ⟨s73, h73⟩,
    ⟨Sig.none, .none⟩,
    ⟨Sig.none, .none⟩,
    ⟨Sig.none, .none⟩,
    ⟨Sig.none, .none⟩,
    ⟨Sig.none, .none⟩,
    ⟨Sig.none, .none⟩,
    ⟨Sig.none, .none⟩,
    ⟨Sig.none, .none⟩,
    ⟨Sig.none, .none⟩,
    ⟨Sig.none, .none⟩,
    ⟨Sig.none, .none⟩,
    ⟨Sig.none, .none⟩,
    ⟨Sig.none, .none⟩,
    ⟨Sig.none, .none⟩,
    ⟨Sig.none, .none⟩,
    ⟨Sig.none, .none⟩,
    ⟨Sig.none, .none⟩,
    ⟨Sig.none, .none⟩,
    ⟨Sig.none, .none⟩,
    ⟨Sig.none, .none⟩,
    ⟨Sig.none, .none⟩,
    ⟨Sig.none, .none⟩,
    ⟨Sig.none, .none⟩,
    ⟨s97, h97⟩,
    ⟨s98, h98⟩,
    ⟨s99, h99⟩,
    ⟨s100, h100⟩,
    ⟨s101, h101⟩,
    ⟨s102, h102⟩,
    ⟨s103, h103⟩,
    ⟨s104, h104⟩,
    ⟨s105, h105⟩,
    ⟨s106, h106⟩,
    ⟨s107, h107⟩,
    ⟨s108, h108⟩,
    ⟨s109, h109⟩,
    ⟨s110, h110⟩,
    ⟨s111, h111⟩,
    ⟨s112, h112⟩,
    ⟨Sig.none, .none⟩,
    ⟨Sig.none, .none⟩,
    ⟨s115, h115⟩,
    ⟨s116, h116⟩,
    ⟨s117, h117⟩,
    ⟨s118, h118⟩,
    ⟨s119, h119⟩,
    ⟨s120, h120⟩,
    ⟨Sig.none, .none⟩,
    ⟨Sig.none, .none⟩,
    ⟨Sig.none, .none⟩,
    ⟨Sig.none, .none⟩,
    ⟨Sig.none, .none⟩,
    ⟨Sig.none, .none⟩,
    ⟨Sig.none, .none⟩,
    ⟨Sig.none, .none⟩,
    ⟨Sig.none, .none⟩,
    ⟨Sig.none, .none⟩,
    ⟨Sig.none, .none⟩,
    ⟨Sig.none, .none⟩,
    ⟨Sig.none, .none⟩,
    ⟨Sig.none, .none⟩,
    ⟨Sig.none, .none⟩,
    ⟨Sig.none, .none⟩,
    ⟨Sig.none, .none⟩,
    ⟨Sig.none, .none⟩,
    ⟨Sig.none, .none⟩,
    ⟨Sig.none, .none⟩,
    ⟨s141, h141⟩,
    ⟨s142, h142⟩,
    ⟨s143, h143⟩,
    ⟨s144, h144⟩,
    ⟨s145, h145⟩,
    ⟨s146, h146⟩,
    ⟨s147, h147⟩,
    ⟨s148, h148⟩,
    ⟨s149, h149⟩,
    ⟨s150, h150⟩,
    ⟨s151, h151⟩,
    ⟨Sig.none, .none⟩,
    ⟨s153, h153⟩,
    ⟨s154, h154⟩,
    ⟨s155, h155⟩,
    ⟨s156, h156⟩,
    ⟨Sig.none, .none⟩,
    ⟨Sig.none, .none⟩,
    ⟨Sig.none, .none⟩,
    ⟨Sig.none, .none⟩,
    ⟨Sig.none, .none⟩,
    ⟨Sig.none, .none⟩,
    ⟨Sig.none, .none⟩,
    ⟨Sig.none, .none⟩,
    ⟨Sig.none, .none⟩,
    ⟨Sig.none, .none⟩,
    ⟨Sig.none, .none⟩,
    ⟨Sig.none, .none⟩,
    ⟨Sig.none, .none⟩,
    ⟨Sig.none, .none⟩,
    ⟨Sig.none, .none⟩,
    ⟨Sig.none, .none⟩,
    ⟨Sig.none, .none⟩,
    ⟨Sig.none, .none⟩,
    ⟨s175, h175⟩,
    ⟨s176, h176⟩,
    ⟨s177, h177⟩,
    ⟨s178, h178⟩,
    ⟨s179, h179⟩,
    ⟨s180, h180⟩],
  tys := [none,
    none,
    some ⟨(.int .i64), 0⟩,
    some ⟨(.int .i64), 0⟩,
    some ⟨.bool, 0⟩,
    some ⟨(.int .u8), 0⟩,
    some ⟨(.int .u8), 0⟩,
    some ⟨(.pair (.int .i64) (.pair (.int .i64) (.pair .bool (.one (.int .u8))))), 0⟩,
    none,
    some ⟨.str, 0⟩,
    none,
    none,
    none,
    none,
    none,
    none,
    none,
    none,
    none,
    none,
    none,
    none,
    some ⟨(.slice (.int .u8)), 1⟩,
    some ⟨(.slice (.pair (.int .i64) (.one (.int .i64)))), 16⟩,
    some ⟨(.slice (.pair (.int .i64) (.pair (.slice (.slice (.int .u8))) (.one (.slice (.slice (.int .u8))))))), 56⟩,
    none,
    some ⟨(.pair (.int .i64) (.pair (.int .i64) (.pair (.int .i64) (.pair (.int .i64) (.pair (.slice (.pair (.int .i64) (.one (.int .i64)))) (.one (.slice (.pair (.int .i64) (.pair (.slice (.slice (.int .u8))) (.one (.slice (.slice (.int .u8))))))))))))), 0⟩,
    some ⟨(.int .i64), 0⟩,
    none,
    none,
    some ⟨(.pair (.int .i64) (.one (.int .i64))), 0⟩,
    some ⟨(.pair (.int .i64) (.one (.int .i64))), 0⟩,
    none,
    none,
    none,
    none,
    none,
    none,
    none,
    some ⟨(.slice (.slice (.int .u8))), 24⟩,
    some ⟨(.slice (.int .i64)), 8⟩,
    none,
    some ⟨(.pair (.slice (.slice (.int .u8))) (.pair (.slice (.slice (.int .u8))) (.pair (.slice (.int .i64)) (.pair (.slice (.int .i64)) (.pair (.int .i64) (.pair (.int .i64) (.pair (.slice (.int .i64)) (.one (.slice (.int .i64)))))))))), 0⟩,
    none,
    none,
    none,
    none,
    none,
    none,
    none,
    none,
    none,
    none,
    none,
    none,
    none,
    none,
    none,
    none,
    none,
    none,
    none,
    none,
    some ⟨(.pair (.int .i64) (.one (.int .i64))), 1⟩,
    none,
    none,
    none,
    none,
    none,
    none,
    some ⟨(.pair (.int .i64) (.pair (.int .i64) (.pair (.int .i64) (.one (.int .i64))))), 0⟩,
    none,
    none,
    none,
    none,
    none,
    none,
    none,
    none,
    none,
    none,
    none,
    none,
    none,
    none,
    none,
    none,
    none,
    none,
    none,
    some ⟨(.pair (.int .i64) (.pair (.slice (.slice (.int .u8))) (.one (.slice (.slice (.int .u8)))))), 0⟩,
    none,
    none,
    none,
    none,
    none,
    none,
    none,
    none,
    none,
    some ⟨(.pair (.int .i64) (.one (.slice (.int .i64)))), 0⟩,
    none,
    none,
    none,
    none,
    some ⟨(.pair (.slice (.int .u8)) (.pair (.int .i64) (.one (.int .i64)))), 0⟩,
    none,
    none,
    none,
    none,
    none,
    none,
    none,
    none,
    none,
    none,
    none,
    none,
    none,
    none,
    none,
    none,
    none,
    none,
    some ⟨(.slice (.slice (.int .i64))), 24⟩,
    none,
    none,
    none,
    none,
    none,
    none,
    none,
    none,
    none,
    some ⟨(.int .u32), 0⟩,
    none,
    none,
    none,
    none,
    none,
    none,
    none,
    none,
    none,
    none,
    none,
    none,
    none,
    none,
    none,
    none,
    none,
    none,
    none,
    none,
    none,
    none,
    none,
    none,
    none,
    none,
    none,
    none,
    none,
    none,
    none,
    none,
    none,
    none,
    none,
    none,
    none,
    none,
    none,
    none,
    none,
    none,
    none,
    none,
    none,
    none,
    none,
    none,
    none,
    none,
    none,
    none,
    none,
    none,
    none,
    none,
    none,
    none,
    none,
    none,
    none,
    none,
    none,
    none,
    none,
    none,
    none,
    none,
    none,
    none,
    none,
    none,
    none,
    none,
    none,
    none,
    none,
    none,
    none,
    none,
    none,
    none,
    none,
    none,
    some ⟨(.int .u64), 0⟩,
    some ⟨(.int .u64), 0⟩,
    none,
    none,
    none,
    none,
    some ⟨(.slice (.slice (.slice (.int .u8)))), 24⟩,
    none,
    none,
    none,
    none,
    none,
    none,
    none,
    none,
    none,
    none,
    none,
    none,
    none,
    none,
    none,
    none,
    none,
    none,
    none,
    none,
    none,
    none,
    none,
    none,
    none,
    none,
    none,
    none,
    none,
    none,
    none,
    none,
    none,
    none,
    none,
    none,
    none,
    none,
    none,
    none,
    none,
    none,
    none,
    none,
    none,
    none,
    none,
    none,
    none,
    none,
    none,
    none,
    none,
    none,
    none,
    none,
    none,
    none,
    none,
    none,
    none,
    none,
    none,
    none,
    none,
    none,
    none,
    none,
    none,
    none,
    none,
    none,
    none,
    none,
    none,
    none,
    none,
    none,
    none,
    none,
    none,
    none],
  vrs := [24],
  nvs := [(24, 62)] }
theorem tys : tysOK Tryz.prog E.tys = true := by decide +kernel
theorem ok3 (X : ExtRep) : EntryOK Tryz.prog X 3 s3 h3 := ⟨Tryz.func3, rfl, by decide, by decide⟩
theorem ok5 (X : ExtRep) : EntryOK Tryz.prog X 5 s5 h5 := ⟨Tryz.func5, rfl, by decide, by decide⟩
theorem ok6 (X : ExtRep) : EntryOK Tryz.prog X 6 s6 h6 := ⟨Tryz.func6, rfl, by decide, by decide⟩
theorem ok7 (X : ExtRep) : EntryOK Tryz.prog X 7 s7 h7 := ⟨Tryz.func7, rfl, by decide, by decide⟩
theorem ok8 (X : ExtRep) : EntryOK Tryz.prog X 8 s8 h8 := ⟨Tryz.func8, rfl, by decide, by decide⟩
theorem ok9 (X : ExtRep) : EntryOK Tryz.prog X 9 s9 h9 := ⟨Tryz.func9, rfl, by decide, by decide⟩
theorem ok10 (X : ExtRep) : EntryOK Tryz.prog X 10 s10 h10 := ⟨Tryz.func10, rfl, by decide, by decide⟩
theorem ok13 (X : ExtRep) : EntryOK Tryz.prog X 13 s13 h13 := ⟨Tryz.func13, rfl, by decide, by decide⟩
theorem ok14 (X : ExtRep) : EntryOK Tryz.prog X 14 s14 h14 := ⟨Tryz.func14, rfl, by decide, by decide⟩
theorem ok15 (X : ExtRep) : EntryOK Tryz.prog X 15 s15 h15 := ⟨Tryz.func15, rfl, by decide, by decide⟩
theorem ok16 (X : ExtRep) : EntryOK Tryz.prog X 16 s16 h16 := ⟨Tryz.func16, rfl, by decide, by decide⟩
theorem ok17 (X : ExtRep) : EntryOK Tryz.prog X 17 s17 h17 := ⟨Tryz.func17, rfl, by decide, by decide⟩
theorem ok18 (X : ExtRep) : EntryOK Tryz.prog X 18 s18 h18 := ⟨Tryz.func18, rfl, by decide, by decide⟩
theorem ok19 (X : ExtRep) : EntryOK Tryz.prog X 19 s19 h19 := ⟨Tryz.func19, rfl, by decide, by decide⟩
theorem ok20 (X : ExtRep) : EntryOK Tryz.prog X 20 s20 h20 := ⟨Tryz.func20, rfl, by decide, by decide⟩
theorem ok21 (X : ExtRep) : EntryOK Tryz.prog X 21 s21 h21 := ⟨Tryz.func21, rfl, by decide, by decide⟩
theorem ok22 (X : ExtRep) : EntryOK Tryz.prog X 22 s22 h22 := ⟨Tryz.func22, rfl, by decide, by decide⟩
theorem ok23 (X : ExtRep) : EntryOK Tryz.prog X 23 s23 h23 := ⟨Tryz.func23, rfl, by decide, by decide⟩
theorem ok29 (X : ExtRep) : EntryOK Tryz.prog X 29 s29 h29 := ⟨Tryz.func29, rfl, by decide, by decide⟩
theorem ok31 (X : ExtRep) : EntryOK Tryz.prog X 31 s31 h31 := ⟨Tryz.func31, rfl, by decide, by decide⟩
theorem ok32 (X : ExtRep) : EntryOK Tryz.prog X 32 s32 h32 := ⟨Tryz.func32, rfl, by decide, by decide⟩
theorem ok33 (X : ExtRep) : EntryOK Tryz.prog X 33 s33 h33 := ⟨Tryz.func33, rfl, by decide, by decide⟩
theorem ok42 (X : ExtRep) : EntryOK Tryz.prog X 42 s42 h42 := ⟨Tryz.func42, rfl, by decide, by decide⟩
theorem ok43 (X : ExtRep) : EntryOK Tryz.prog X 43 s43 h43 := ⟨Tryz.func43, rfl, by decide, by decide⟩
theorem ok44 (X : ExtRep) : EntryOK Tryz.prog X 44 s44 h44 := ⟨Tryz.func44, rfl, by decide, by decide⟩
theorem ok45 (X : ExtRep) : EntryOK Tryz.prog X 45 s45 h45 := ⟨Tryz.func45, rfl, by decide, by decide⟩
theorem ok46 (X : ExtRep) : EntryOK Tryz.prog X 46 s46 h46 := ⟨Tryz.func46, rfl, by decide, by decide⟩
theorem ok47 (X : ExtRep) : EntryOK Tryz.prog X 47 s47 h47 := ⟨Tryz.func47, rfl, by decide, by decide⟩
theorem ok48 (X : ExtRep) : EntryOK Tryz.prog X 48 s48 h48 := ⟨Tryz.func48, rfl, by decide, by decide⟩
theorem ok49 (X : ExtRep) : EntryOK Tryz.prog X 49 s49 h49 := ⟨Tryz.func49, rfl, by decide, by decide⟩
theorem ok50 (X : ExtRep) : EntryOK Tryz.prog X 50 s50 h50 := ⟨Tryz.func50, rfl, by decide, by decide⟩
theorem ok51 (X : ExtRep) : EntryOK Tryz.prog X 51 s51 h51 := ⟨Tryz.func51, rfl, by decide, by decide⟩
theorem ok52 (X : ExtRep) : EntryOK Tryz.prog X 52 s52 h52 := ⟨Tryz.func52, rfl, by decide, by decide⟩
theorem ok54 (X : ExtRep) : EntryOK Tryz.prog X 54 s54 h54 := ⟨Tryz.func54, rfl, by decide, by decide⟩
theorem ok55 (X : ExtRep) : EntryOK Tryz.prog X 55 s55 h55 := ⟨Tryz.func55, rfl, by decide, by decide⟩
theorem ok56 (X : ExtRep) : EntryOK Tryz.prog X 56 s56 h56 := ⟨Tryz.func56, rfl, by decide, by decide⟩
theorem ok57 (X : ExtRep) : EntryOK Tryz.prog X 57 s57 h57 := ⟨Tryz.func57, rfl, by decide, by decide⟩
theorem ok58 (X : ExtRep) : EntryOK Tryz.prog X 58 s58 h58 := ⟨Tryz.func58, rfl, by decide, by decide⟩
theorem ok59 (X : ExtRep) : EntryOK Tryz.prog X 59 s59 h59 := ⟨Tryz.func59, rfl, by decide, by decide⟩
theorem ok60 (X : ExtRep) : EntryOK Tryz.prog X 60 s60 h60 := ⟨Tryz.func60, rfl, by decide, by decide⟩
theorem ok61 (X : ExtRep) : EntryOK Tryz.prog X 61 s61 h61 := ⟨Tryz.func61, rfl, by decide, by decide⟩
theorem ok62 (X : ExtRep) : EntryOK Tryz.prog X 62 s62 h62 := ⟨Tryz.func62, rfl, by decide, by decide⟩
theorem ok63 (X : ExtRep) : EntryOK Tryz.prog X 63 s63 h63 := ⟨Tryz.func63, rfl, by decide, by decide⟩
theorem ok70 (X : ExtRep) : EntryOK Tryz.prog X 70 s70 h70 := ⟨Tryz.func70, rfl, by decide, by decide⟩
theorem ok71 (X : ExtRep) : EntryOK Tryz.prog X 71 s71 h71 := ⟨Tryz.func71, rfl, by decide, by decide⟩
theorem ok72 (X : ExtRep) : EntryOK Tryz.prog X 72 s72 h72 := ⟨Tryz.func72, rfl, by decide, by decide⟩
theorem ok97 (X : ExtRep) : EntryOK Tryz.prog X 97 s97 h97 := ⟨Tryz.func97, rfl, by decide, by decide⟩
theorem ok98 (X : ExtRep) : EntryOK Tryz.prog X 98 s98 h98 := ⟨Tryz.func98, rfl, by decide, by decide⟩
theorem ok99 (X : ExtRep) : EntryOK Tryz.prog X 99 s99 h99 := ⟨Tryz.func99, rfl, by decide, by decide⟩
theorem ok100 (X : ExtRep) : EntryOK Tryz.prog X 100 s100 h100 := ⟨Tryz.func100, rfl, by decide, by decide⟩
theorem ok101 (X : ExtRep) : EntryOK Tryz.prog X 101 s101 h101 := ⟨Tryz.func101, rfl, by decide, by decide⟩
theorem ok103 (X : ExtRep) : EntryOK Tryz.prog X 103 s103 h103 := ⟨Tryz.func103, rfl, by decide, by decide⟩
theorem ok104 (X : ExtRep) : EntryOK Tryz.prog X 104 s104 h104 := ⟨Tryz.func104, rfl, by decide, by decide⟩
theorem ok106 (X : ExtRep) : EntryOK Tryz.prog X 106 s106 h106 := ⟨Tryz.func106, rfl, by decide, by decide⟩
theorem ok107 (X : ExtRep) : EntryOK Tryz.prog X 107 s107 h107 := ⟨Tryz.func107, rfl, by decide, by decide⟩
theorem ok108 (X : ExtRep) : EntryOK Tryz.prog X 108 s108 h108 := ⟨Tryz.func108, rfl, by decide, by decide⟩
theorem ok109 (X : ExtRep) : EntryOK Tryz.prog X 109 s109 h109 := ⟨Tryz.func109, rfl, by decide, by decide⟩
theorem ok110 (X : ExtRep) : EntryOK Tryz.prog X 110 s110 h110 := ⟨Tryz.func110, rfl, by decide, by decide⟩
theorem ok111 (X : ExtRep) : EntryOK Tryz.prog X 111 s111 h111 := ⟨Tryz.func111, rfl, by decide, by decide⟩
theorem ok112 (X : ExtRep) : EntryOK Tryz.prog X 112 s112 h112 := ⟨Tryz.func112, rfl, by decide, by decide⟩
theorem ok115 (X : ExtRep) : EntryOK Tryz.prog X 115 s115 h115 := ⟨Tryz.func115, rfl, by decide, by decide⟩
theorem ok117 (X : ExtRep) : EntryOK Tryz.prog X 117 s117 h117 := ⟨Tryz.func117, rfl, by decide, by decide⟩
theorem ok118 (X : ExtRep) : EntryOK Tryz.prog X 118 s118 h118 := ⟨Tryz.func118, rfl, by decide, by decide⟩
theorem ok119 (X : ExtRep) : EntryOK Tryz.prog X 119 s119 h119 := ⟨Tryz.func119, rfl, by decide, by decide⟩
theorem ok120 (X : ExtRep) : EntryOK Tryz.prog X 120 s120 h120 := ⟨Tryz.func120, rfl, by decide, by decide⟩
theorem ok143 (X : ExtRep) : EntryOK Tryz.prog X 143 s143 h143 := ⟨Tryz.func143, rfl, by decide, by decide⟩
theorem ok145 (X : ExtRep) : EntryOK Tryz.prog X 145 s145 h145 := ⟨Tryz.func145, rfl, by decide, by decide⟩
theorem ok147 (X : ExtRep) : EntryOK Tryz.prog X 147 s147 h147 := ⟨Tryz.func147, rfl, by decide, by decide⟩
theorem ok149 (X : ExtRep) : EntryOK Tryz.prog X 149 s149 h149 := ⟨Tryz.func149, rfl, by decide, by decide⟩
theorem ok150 (X : ExtRep) : EntryOK Tryz.prog X 150 s150 h150 := ⟨Tryz.func150, rfl, by decide, by decide⟩
theorem ok151 (X : ExtRep) : EntryOK Tryz.prog X 151 s151 h151 := ⟨Tryz.func151, rfl, by decide, by decide⟩
theorem ok153 (X : ExtRep) : EntryOK Tryz.prog X 153 s153 h153 := ⟨Tryz.func153, rfl, by decide, by decide⟩
theorem ok154 (X : ExtRep) : EntryOK Tryz.prog X 154 s154 h154 := ⟨Tryz.func154, rfl, by decide, by decide⟩
theorem ok155 (X : ExtRep) : EntryOK Tryz.prog X 155 s155 h155 := ⟨Tryz.func155, rfl, by decide, by decide⟩
theorem ok156 (X : ExtRep) : EntryOK Tryz.prog X 156 s156 h156 := ⟨Tryz.func156, rfl, by decide, by decide⟩
theorem ok176 (X : ExtRep) : EntryOK Tryz.prog X 176 s176 h176 := ⟨Tryz.func176, rfl, by decide, by decide⟩
theorem ok177 (X : ExtRep) : EntryOK Tryz.prog X 177 s177 h177 := ⟨Tryz.func177, rfl, by decide, by decide⟩
theorem ok178 (X : ExtRep) : EntryOK Tryz.prog X 178 s178 h178 := ⟨Tryz.func178, rfl, by decide, by decide⟩
theorem ok179 (X : ExtRep) : EntryOK Tryz.prog X 179 s179 h179 := ⟨Tryz.func179, rfl, by decide, by decide⟩
theorem ok180 (X : ExtRep) : EntryOK Tryz.prog X 180 s180 h180 := ⟨Tryz.func180, rfl, by decide, by decide⟩
-- tatting/tattinglaw29.PortKnown
-- tatting/port.Diff
def r5 (f13 : Int → Int → LI_ → LI_ → (Int × Int) → Option ((LL_ × (LL_ × (LI_ × (LI_ × (Int × (Int × (LI_ × LI_))))))) × Int × Int)) (f14 : Int → LI_ → LI_ → Option ((List (Int × Int)) × Int)) (f15 : (List (Int × Int)) → Int → Int → Int → Int → Option ((List (Int × Int)) × Int)) (f16 : LI_ → LI_ → (List (Int × Int)) → Option ((List (Int × Int)) × Int)) (f17 : LL_ → LL_ → (List (Int × Int)) → Option (HK_ × Int)) (a0 : Int) (a1 : Int) (a2 : LI_) (a3 : LI_) (a4 : (Int × Int)) : Option ((Int × (Int × (Int × (Int × ((List (Int × Int)) × HK_))))) × Int) :=
Option.bind (f13 a0 a1 a2 a3 a4) fun y1 =>
let v2 : Bool := !decide (y1.2.2 = (0 : Int))
bif v2 then
let v3 : (Int × (Int × (Int × (Int × ((List (Int × Int)) × HK_))))) := ((0 : Int), ((0 : Int), ((0 : Int), ((0 : Int), (([] : List (Int × Int)), ([] : List (Int × (LL_ × LL_))))))))
some (v3, y1.2.2)
else
let v4 : Int := (y1.1.1.length : Int)
let v5 : Int := (y1.1.2.1.length : Int)
Option.bind (f14 y1.2.1 y1.1.2.2.2.2.2.2.1 y1.1.2.2.2.2.2.2.2) fun y6 =>
Option.bind (f15 y6.1 y1.1.2.2.2.2.1 y1.1.2.2.2.2.2.1 v4 v5) fun y7 =>
let v8 : Bool := !decide (y7.2 = (0 : Int))
bif v8 then
let v9 : (Int × (Int × (Int × (Int × ((List (Int × Int)) × HK_))))) := ((0 : Int), ((0 : Int), ((0 : Int), ((0 : Int), (([] : List (Int × Int)), ([] : List (Int × (LL_ × LL_))))))))
some (v9, y7.2)
else
Option.bind (f16 y1.1.2.2.1 y1.1.2.2.2.1 y7.1) fun y10 =>
let v11 : Bool := !decide (y10.2 = (0 : Int))
bif v11 then
let v12 : (Int × (Int × (Int × (Int × ((List (Int × Int)) × HK_))))) := ((0 : Int), ((0 : Int), ((0 : Int), ((0 : Int), (([] : List (Int × Int)), ([] : List (Int × (LL_ × LL_))))))))
some (v12, y10.2)
else
Option.bind (f17 y1.1.1 y1.1.2.1 y10.1) fun y13 =>
let v14 : Bool := !decide (y13.2 = (0 : Int))
bif v14 then
let v15 : (Int × (Int × (Int × (Int × ((List (Int × Int)) × HK_))))) := ((0 : Int), ((0 : Int), ((0 : Int), ((0 : Int), (([] : List (Int × Int)), ([] : List (Int × (LL_ × LL_))))))))
some (v15, y13.2)
else
let v16 : Int := (y10.1.length : Int)
let v17 : Int := IntKind.wrap .i64 (v4 + v5)
let v18 : Int := (y10.1.length : Int)
let v19 : Int := IntKind.wrap .i64 ((2 : Int) * v18)
let v20 : Int := IntKind.wrap .i64 (v17 - v19)
let v21 : (Int × (Int × (Int × (Int × ((List (Int × Int)) × HK_))))) := (v4, (v5, (v16, (v20, (y10.1, y13.1)))))
some (v21, (0 : Int))
-- tatting/tattinglaw29.wide
def r6 (_ : Unit) : Option ((Int × Int)) :=
let v1 : (Int × Int) := ((1000 : Int), (1099511627776 : Int))
some v1
-- tatting/port.Near
def r7 (f18 : Int → LI_ → LI_ → Option ((LL_ × (LL_ × (LI_ × (LI_ × (Int × (Int × (LI_ × LI_))))))) × Int)) (f19 : LI_ → LI_ → Int → Option (Int × Int × Int)) (a0 : Int) (a1 : LI_) (a2 : LI_) (a3 : Int) : Option (Int × Int) :=
let v1 : Bool := decide (a3 < (0 : Int))
bif v1 then
some ((0 : Int), (1 : Int))
else
Option.bind (f18 a0 a1 a2) fun y2 =>
let v3 : Bool := !decide (y2.2 = (0 : Int))
bif v3 then
some ((0 : Int), y2.2)
else
Option.bind (f19 y2.1.2.2.2.2.2.2.1 y2.1.2.2.2.2.2.2.2 a3) fun y4 =>
some (y4.1, y4.2.2)
-- tatting/port.Apply
def r8 (f20 : LI_ → Option (Int × HK_ × Int × Int)) (f21 : Int → HK_ → LI_ → Option (LI_ × Int)) (a0 : LI_) (a1 : LI_) : Option (LI_ × Int × Int) :=
Option.bind (f20 a0) fun y1 =>
let v2 : Bool := !decide (y1.2.2.2 = (0 : Int))
bif v2 then
some (([] : List Int), y1.2.2.1, y1.2.2.2)
else
Option.bind (f21 y1.1 y1.2.1 a1) fun y3 =>
some (y3.1, (0 : Int), y3.2)
-- tatting/port.Undo
def r9 (f20 : LI_ → Option (Int × HK_ × Int × Int)) (f21 : Int → HK_ → LI_ → Option (LI_ × Int)) (f22 : HK_ → Option (HK_ × Int)) (a0 : LI_) (a1 : LI_) : Option (LI_ × Int × Int) :=
Option.bind (f20 a0) fun y1 =>
let v2 : Bool := !decide (y1.2.2.2 = (0 : Int))
bif v2 then
some (([] : List Int), y1.2.2.1, y1.2.2.2)
else
Option.bind (f22 y1.2.1) fun y3 =>
let v4 : Bool := !decide (y3.2 = (0 : Int))
bif v4 then
some (([] : List Int), (0 : Int), y3.2)
else
Option.bind (f21 y1.1 y3.1 a1) fun y5 =>
some (y5.1, (0 : Int), y5.2)
-- tatting/tattinglaw29.awake
def r10 (f5 : Int → Int → LI_ → LI_ → (Int × Int) → Option ((Int × (Int × (Int × (Int × ((List (Int × Int)) × HK_))))) × Int)) (f6 : Unit → Option ((Int × Int))) (f7 : Int → LI_ → LI_ → Int → Option (Int × Int)) (f23 : Int → Int → LI_ → LI_ → (Int × Int) → Option (Int × Int × Int)) (_ : Unit) : Option (Bool) :=
let v1 : LI_ := ([(97 : Int), (98 : Int)] : List Int)
if 0 < v1.length then
let v2 : LI_ := ([(98 : Int)] : List Int)
if 0 < v2.length then
Option.bind (f6 ()) fun y3 =>
Option.bind (f5 (0 : Int) (0 : Int) v1 v2 y3) fun y4 =>
let v5 : LI_ := ([(97 : Int), (98 : Int)] : List Int)
if 0 < v5.length then
let v6 : LI_ := ([(98 : Int)] : List Int)
if 0 < v6.length then
Option.bind (f7 (0 : Int) v5 v6 (1 : Int)) fun y7 =>
let v8 : LI_ := ([(97 : Int), (98 : Int)] : List Int)
if 0 < v8.length then
let v9 : LI_ := ([(99 : Int), (98 : Int)] : List Int)
if 0 < v9.length then
Option.bind (f6 ()) fun y10 =>
Option.bind (f23 (0 : Int) (1 : Int) v8 v9 y10) fun y11 =>
let v12 : Bool := decide (y4.2 = (0 : Int))
bif v12 == true then
let v13 : Bool := decide (y4.1.2.2.1 = (1 : Int))
bif v13 == true then
let v14 : Bool := decide (y4.1.2.2.2.1 = (1 : Int))
bif v14 == true then
let v15 : Int := (y4.1.2.2.2.2.1.length : Int)
let v16 : Bool := decide (v15 = (1 : Int))
bif v16 == true then
if 0 ≤ (0 : Int) ∧ (0 : Int) < (y4.1.2.2.2.2.1.length : Int) then
let v17 : (Int × Int) := y4.1.2.2.2.2.1.getD (0 : Int).toNat ((0 : Int), (0 : Int))
let v18 : (Int × Int) := ((1 : Int), (0 : Int))
let v19 : Bool := (eqInt v17.1 v18.1 && eqInt v17.2 v18.2)
bif v19 == true then
let v20 : Int := (y4.1.2.2.2.2.2.length : Int)
let v21 : Bool := decide (v20 = (1 : Int))
bif v21 == true then
let v22 : Bool := decide (y7.2 = (0 : Int))
bif v22 == true then
let v23 : Bool := decide (y7.1 = (1 : Int))
bif v23 == true then
let v24 : Bool := decide (y11.2.2 = (0 : Int))
bif v24 == true then
let v25 : Bool := decide (y11.1 = (1 : Int))
bif v25 == true then
let v26 : Bool := decide (y11.2.1 = (1 : Int))
some v26
else
some false
else
some false
else
some false
else
some false
else
some false
else
some false
else none
else
some false
else
some false
else
some false
else
some false
else none
else none
else none
else none
else none
else none
-- tatting/port.ready
def r13 (f18 : Int → LI_ → LI_ → Option ((LL_ × (LL_ × (LI_ × (LI_ × (Int × (Int × (LI_ × LI_))))))) × Int)) (f29 : Int → LI_ → Option (Int × Int)) (f30 : LI_ → LI_ → Option ((Int × (Int × (Int × Int))))) (f31 : (Int × (Int × (Int × Int))) → Option (Int)) (f32 : Int → (Int × (Int × (Int × Int))) → Int → Option (Int)) (a0 : Int) (a1 : Int) (a2 : LI_) (a3 : LI_) (a4 : (Int × Int)) : Option ((LL_ × (LL_ × (LI_ × (LI_ × (Int × (Int × (LI_ × LI_))))))) × Int × Int) :=
let v1 : Bool := decide (a1 < (0 : Int))
bif v1 == false then
let v2 : Bool := decide (a1 > (8 : Int))
bif v2 then
let v3 : (LL_ × (LL_ × (LI_ × (LI_ × (Int × (Int × (LI_ × LI_))))))) := (([] : List LI_), (([] : List LI_), (([] : List Int), (([] : List Int), ((0 : Int), ((0 : Int), (([] : List Int), ([] : List Int))))))))
some (v3, (0 : Int), (1 : Int))
else
Option.bind (f29 a0 a2) fun y4 =>
let v5 : Bool := !decide (y4.2 = (0 : Int))
bif v5 then
let v6 : (LL_ × (LL_ × (LI_ × (LI_ × (Int × (Int × (LI_ × LI_))))))) := (([] : List LI_), (([] : List LI_), (([] : List Int), (([] : List Int), ((0 : Int), ((0 : Int), (([] : List Int), ([] : List Int))))))))
some (v6, (0 : Int), y4.2)
else
Option.bind (f29 a0 a3) fun y7 =>
let v8 : Int := IntKind.wrap .i64 (y4.1 + y7.1)
let v9 : Bool := decide (v8 > a4.1)
bif v9 == false then
let v10 : Int := IntKind.wrap .i64 (y4.1 + y7.1)
let v11 : Bool := decide (v10 > (1048576 : Int))
bif v11 then
let v12 : (LL_ × (LL_ × (LI_ × (LI_ × (Int × (Int × (LI_ × LI_))))))) := (([] : List LI_), (([] : List LI_), (([] : List Int), (([] : List Int), ((0 : Int), ((0 : Int), (([] : List Int), ([] : List Int))))))))
some (v12, (0 : Int), (2 : Int))
else
Option.bind (f18 a0 a2 a3) fun y13 =>
let v14 : Bool := !decide (y13.2 = (0 : Int))
bif v14 then
let v15 : (LL_ × (LL_ × (LI_ × (LI_ × (Int × (Int × (LI_ × LI_))))))) := (([] : List LI_), (([] : List LI_), (([] : List Int), (([] : List Int), ((0 : Int), ((0 : Int), (([] : List Int), ([] : List Int))))))))
some (v15, (0 : Int), y13.2)
else
Option.bind (f30 y13.1.2.2.2.2.2.2.1 y13.1.2.2.2.2.2.2.2) fun y16 =>
let v17 : Bool := decide (a1 = (0 : Int))
bif v17 then
Option.bind (f31 y16) fun y18 =>
Option.bind (f32 y18 y16 a4.2) fun y19 =>
let v20 : Bool := !decide (y19 = (0 : Int))
bif v20 then
let v21 : (LL_ × (LL_ × (LI_ × (LI_ × (Int × (Int × (LI_ × LI_))))))) := (([] : List LI_), (([] : List LI_), (([] : List Int), (([] : List Int), ((0 : Int), ((0 : Int), (([] : List Int), ([] : List Int))))))))
some (v21, (0 : Int), y19)
else
some (y13.1, y18, (0 : Int))
else
Option.bind (f32 a1 y16 a4.2) fun y22 =>
let v23 : Bool := !decide (y22 = (0 : Int))
bif v23 then
let v24 : (LL_ × (LL_ × (LI_ × (LI_ × (Int × (Int × (LI_ × LI_))))))) := (([] : List LI_), (([] : List LI_), (([] : List Int), (([] : List Int), ((0 : Int), ((0 : Int), (([] : List Int), ([] : List Int))))))))
some (v24, (0 : Int), y22)
else
some (y13.1, a1, (0 : Int))
else
let v25 : (LL_ × (LL_ × (LI_ × (LI_ × (Int × (Int × (LI_ × LI_))))))) := (([] : List LI_), (([] : List LI_), (([] : List Int), (([] : List Int), ((0 : Int), ((0 : Int), (([] : List Int), ([] : List Int))))))))
some (v25, (0 : Int), (2 : Int))
else
let v26 : (LL_ × (LL_ × (LI_ × (LI_ × (Int × (Int × (LI_ × LI_))))))) := (([] : List LI_), (([] : List LI_), (([] : List Int), (([] : List Int), ((0 : Int), ((0 : Int), (([] : List Int), ([] : List Int))))))))
some (v26, (0 : Int), (1 : Int))
-- tatting/port.run
def r14 (f33 : LI_ → LI_ → Option ((List (Int × Int)) × Int)) (a0 : Int) (a1 : LI_) (a2 : LI_) : Option ((List (Int × Int)) × Int) :=
let v1 : Bool := decide (a0 = (1 : Int))
bif v1 then
Option.bind (f33 a1 a2) fun y2 =>
some (y2.1, y2.2)
else
let v3 : Bool := decide (a0 = (2 : Int))
bif v3 then
none
else
let v4 : Bool := decide (a0 = (3 : Int))
bif v4 then
none
else
let v5 : Bool := decide (a0 = (4 : Int))
bif v5 then
none
else
let v6 : Bool := decide (a0 = (5 : Int))
bif v6 then
none
else
let v7 : Bool := decide (a0 = (6 : Int))
bif v7 then
none
else
let v8 : Int := IntKind.wrap .i64 (a0 - (7 : Int))
let v9 : Int := (a1.length : Int)
none
-- tatting/trim.Grow
def F15_0 (f42 : Int → Option (Bool)) (self : ((List (Int × Int)) × Int × Int × Int × Int × Int × Int × (List (Int × Int))) → Option (((List (Int × Int)) × Int × Int × Int × Int × Int × Int × (List (Int × Int))) ⊕ ((List (Int × Int)) × Int))) (z14 : (List (Int × Int)) × Int × Int × Int × Int × Int × Int × (List (Int × Int))) : Option (((List (Int × Int)) × Int × Int × Int × Int × Int × Int × (List (Int × Int))) ⊕ ((List (Int × Int)) × Int)) :=
let v15 : Bool := decide (z14.2.2.2.2.2.2.1 < z14.2.2.2.2.2.1)
bif v15 then
let v16 : (Int × Int) := (z14.2.2.2.2.2.2.1, z14.2.2.2.2.2.2.1)
let v17 : (List (Int × Int)) := ([v16] : List (Int × Int))
if (z14.2.2.2.2.2.2.2.length + v17.length) * 16 ≤ 140737488355328 ∧ z14.2.2.2.2.2.2.2.length + v17.length ≤ 140737488355328 then
let v18 : (List (Int × Int)) := z14.2.2.2.2.2.2.2 ++ v17
let v19 : Int := IntKind.wrap .i64 (z14.2.2.2.2.2.2.1 + (1 : Int))
self (z14.1, z14.2.1, z14.2.2.1, z14.2.2.2.1, z14.2.2.2.2.1, z14.2.2.2.2.2.1, v19, v18)
else none
else
some (.inl (z14.1, z14.2.1, z14.2.2.1, z14.2.2.2.1, z14.2.2.2.2.1, z14.2.2.2.2.2.1, z14.2.2.2.2.2.2.1, z14.2.2.2.2.2.2.2))
def F15_1 (f42 : Int → Option (Bool)) (self : (Int × Int × Int × Int × (List (Int × Int)) × Int × Int × (List (Int × Int))) → Option ((Int × Int × Int × Int × (List (Int × Int)) × Int × Int × (List (Int × Int))) ⊕ ((List (Int × Int)) × Int))) (z24 : Int × Int × Int × Int × (List (Int × Int)) × Int × Int × (List (Int × Int))) : Option ((Int × Int × Int × Int × (List (Int × Int)) × Int × Int × (List (Int × Int))) ⊕ ((List (Int × Int)) × Int)) :=
let v25 : Bool := decide (z24.2.2.2.2.2.2.1 < z24.2.2.2.2.2.1)
bif v25 then
if 0 ≤ z24.2.2.2.2.2.2.1 ∧ z24.2.2.2.2.2.2.1 < (z24.2.2.2.2.1.length : Int) then
let v26 : (Int × Int) := z24.2.2.2.2.1.getD z24.2.2.2.2.2.2.1.toNat ((0 : Int), (0 : Int))
let v27 : Bool := decide (v26.1 < (0 : Int))
bif v27 == false then
let v28 : Int := IntKind.wrap .i64 (z24.2.2.1 - z24.1)
let v29 : Int := IntKind.wrap .i64 (v28 - z24.2.1)
let v30 : Bool := decide (v26.1 ≥ v29)
bif v30 == false then
let v31 : Bool := decide (v26.2 < (0 : Int))
bif v31 == false then
let v32 : Int := IntKind.wrap .i64 (z24.2.2.2.1 - z24.1)
let v33 : Int := IntKind.wrap .i64 (v32 - z24.2.1)
let v34 : Bool := decide (v26.2 ≥ v33)
bif v34 then
some (.inr (([] : List (Int × Int)), (1 : Int)))
else
let v35 : Int := IntKind.wrap .i64 (v26.1 + z24.1)
let v36 : Int := IntKind.wrap .i64 (v26.2 + z24.1)
let v37 : (Int × Int) := (v35, v36)
let v38 : (List (Int × Int)) := ([v37] : List (Int × Int))
if (z24.2.2.2.2.2.2.2.length + v38.length) * 16 ≤ 140737488355328 ∧ z24.2.2.2.2.2.2.2.length + v38.length ≤ 140737488355328 then
let v39 : (List (Int × Int)) := z24.2.2.2.2.2.2.2 ++ v38
let v40 : Int := IntKind.wrap .i64 (z24.2.2.2.2.2.2.1 + (1 : Int))
self (z24.1, z24.2.1, z24.2.2.1, z24.2.2.2.1, z24.2.2.2.2.1, z24.2.2.2.2.2.1, v40, v39)
else none
else
some (.inr (([] : List (Int × Int)), (1 : Int)))
else
some (.inr (([] : List (Int × Int)), (1 : Int)))
else
some (.inr (([] : List (Int × Int)), (1 : Int)))
else none
else
some (.inl (z24.1, z24.2.1, z24.2.2.1, z24.2.2.2.1, z24.2.2.2.2.1, z24.2.2.2.2.2.1, z24.2.2.2.2.2.2.1, z24.2.2.2.2.2.2.2))
def F15_2 (f42 : Int → Option (Bool)) (self : (Int × Int × Int × (List (Int × Int))) → Option ((Int × Int × Int × (List (Int × Int))) ⊕ ((List (Int × Int)) × Int))) (z44 : Int × Int × Int × (List (Int × Int))) : Option ((Int × Int × Int × (List (Int × Int))) ⊕ ((List (Int × Int)) × Int)) :=
let v45 : Bool := decide (z44.2.2.1 > (0 : Int))
bif v45 then
let v46 : Int := IntKind.wrap .i64 (z44.1 - z44.2.2.1)
let v47 : Int := IntKind.wrap .i64 (z44.2.1 - z44.2.2.1)
let v48 : (Int × Int) := (v46, v47)
let v49 : (List (Int × Int)) := ([v48] : List (Int × Int))
if (z44.2.2.2.length + v49.length) * 16 ≤ 140737488355328 ∧ z44.2.2.2.length + v49.length ≤ 140737488355328 then
let v50 : (List (Int × Int)) := z44.2.2.2 ++ v49
let v51 : Int := IntKind.wrap .i64 (z44.2.2.1 - (1 : Int))
self (z44.1, z44.2.1, v51, v50)
else none
else
some (.inl (z44.1, z44.2.1, z44.2.2.1, z44.2.2.2))
def r15 (f42 : Int → Option (Bool)) (lp0 : ((List (Int × Int)) × Int × Int × Int × Int × Int × Int × (List (Int × Int))) → Option (((List (Int × Int)) × Int × Int × Int × Int × Int × Int × (List (Int × Int))) ⊕ ((List (Int × Int)) × Int))) (lp1 : (Int × Int × Int × Int × (List (Int × Int)) × Int × Int × (List (Int × Int))) → Option ((Int × Int × Int × Int × (List (Int × Int)) × Int × Int × (List (Int × Int))) ⊕ ((List (Int × Int)) × Int))) (lp2 : (Int × Int × Int × (List (Int × Int))) → Option ((Int × Int × Int × (List (Int × Int))) ⊕ ((List (Int × Int)) × Int))) (a0 : (List (Int × Int))) (a1 : Int) (a2 : Int) (a3 : Int) (a4 : Int) : Option ((List (Int × Int)) × Int) :=
Option.bind (f42 a3) fun y1 =>
let v2 : Bool := !y1
bif v2 == false then
Option.bind (f42 a4) fun y3 =>
let v4 : Bool := !y3
bif v4 == false then
let v5 : Bool := decide (a1 < (0 : Int))
bif v5 == false then
let v6 : Bool := decide (a2 < (0 : Int))
bif v6 == false then
let v7 : Int := if a4 < a3 then a4 else a3
let v8 : Bool := decide (a1 > v7)
bif v8 == false then
let v9 : Int := if a4 < a3 then a4 else a3
let v10 : Int := IntKind.wrap .i64 (v9 - a1)
let v11 : Bool := decide (a2 > v10)
bif v11 then
some (([] : List (Int × Int)), (1 : Int))
else
Option.bind (lp0 (a0, a1, a2, a3, a4, a1, (0 : Int), ([] : List (Int × Int)))) fun s12 => onSum s12 (fun y13 =>
let v21 : Int := (y13.1.length : Int)
Option.bind (lp1 (y13.2.1, y13.2.2.1, y13.2.2.2.1, y13.2.2.2.2.1, y13.1, v21, (0 : Int), y13.2.2.2.2.2.2.2)) fun s22 => onSum s22 (fun y23 =>
Option.bind (lp2 (y23.2.2.1, y23.2.2.2.1, y23.2.1, y23.2.2.2.2.2.2.2)) fun s42 => onSum s42 (fun y43 =>
some (y43.2.2.2, (0 : Int))) (fun o52 => some o52)) (fun o41 => some o41)) (fun o20 => some o20)
else
some (([] : List (Int × Int)), (1 : Int))
else
some (([] : List (Int × Int)), (1 : Int))
else
some (([] : List (Int × Int)), (1 : Int))
else
some (([] : List (Int × Int)), (1 : Int))
else
some (([] : List (Int × Int)), (1 : Int))
-- tatting/canon.Of
def r16 (f43 : LI_ → LI_ → (List (Int × Int)) → Option (Bool)) (f44 : LI_ → LI_ → Option (Int)) (f45 : LI_ → LI_ → Option ((List (Int × Int)))) (a0 : LI_) (a1 : LI_) (a2 : (List (Int × Int))) : Option ((List (Int × Int)) × Int) :=
Option.bind (f43 a0 a1 a2) fun y1 =>
let v2 : Bool := !y1
bif v2 then
some (([] : List (Int × Int)), (1 : Int))
else
let v3 : Int := (a2.length : Int)
Option.bind (f44 a0 a1) fun y4 =>
let v5 : Bool := decide (v3 < y4)
bif v5 then
some (([] : List (Int × Int)), (6 : Int))
else
Option.bind (f45 a0 a1) fun y6 =>
some (y6, (0 : Int))
-- tatting/edit.Make
def F17_0 (f43 : LI_ → LI_ → (List (Int × Int)) → Option (Bool)) (f46 : LL_ → LL_ → Option (LI_ × LI_ × Int)) (f47 : Int → Int → Int → Int → HK_ → LL_ → LL_ → Option (Int × Int × HK_ × LL_ × LL_)) (self : ((List (Int × Int)) × Int × Int × LL_ × LL_ × HK_ × Int × Int) → Option (((List (Int × Int)) × Int × Int × LL_ × LL_ × HK_ × Int × Int) ⊕ (HK_ × Int))) (z7 : (List (Int × Int)) × Int × Int × LL_ × LL_ × HK_ × Int × Int) : Option (((List (Int × Int)) × Int × Int × LL_ × LL_ × HK_ × Int × Int) ⊕ (HK_ × Int)) :=
let v8 : Bool := decide (z7.2.2.1 < z7.2.1)
bif v8 then
if 0 ≤ z7.2.2.1 ∧ z7.2.2.1 < (z7.1.length : Int) then
let v9 : (Int × Int) := z7.1.getD z7.2.2.1.toNat ((0 : Int), (0 : Int))
Option.bind (f47 v9.1 v9.2 z7.2.2.2.2.2.2.1 z7.2.2.2.2.2.2.2 z7.2.2.2.2.2.1 z7.2.2.2.1 z7.2.2.2.2.1) fun y10 =>
let v11 : Int := IntKind.wrap .i64 (z7.2.2.1 + (1 : Int))
self (z7.1, z7.2.1, v11, y10.2.2.2.1, y10.2.2.2.2, y10.2.2.1, y10.1, y10.2.1)
else none
else
some (.inl (z7.1, z7.2.1, z7.2.2.1, z7.2.2.2.1, z7.2.2.2.2.1, z7.2.2.2.2.2.1, z7.2.2.2.2.2.2.1, z7.2.2.2.2.2.2.2))
def r17 (f43 : LI_ → LI_ → (List (Int × Int)) → Option (Bool)) (f46 : LL_ → LL_ → Option (LI_ × LI_ × Int)) (f47 : Int → Int → Int → Int → HK_ → LL_ → LL_ → Option (Int × Int × HK_ × LL_ × LL_)) (lp0 : ((List (Int × Int)) × Int × Int × LL_ × LL_ × HK_ × Int × Int) → Option (((List (Int × Int)) × Int × Int × LL_ × LL_ × HK_ × Int × Int) ⊕ (HK_ × Int))) (a0 : LL_) (a1 : LL_) (a2 : (List (Int × Int))) : Option (HK_ × Int) :=
Option.bind (f46 a0 a1) fun y1 =>
Option.bind (f43 y1.1 y1.2.1 a2) fun y2 =>
let v3 : Bool := !y2
bif v3 then
some (([] : List (Int × (LL_ × LL_))), (1 : Int))
else
let v4 : Int := (a2.length : Int)
Option.bind (lp0 (a2, v4, (0 : Int), a0, a1, ([] : List (Int × (LL_ × LL_))), (0 : Int), (0 : Int))) fun s5 => onSum s5 (fun y6 =>
let v13 : Int := (y6.2.2.2.1.length : Int)
let v14 : Int := (y6.2.2.2.2.1.length : Int)
Option.bind (f47 v13 v14 y6.2.2.2.2.2.2.1 y6.2.2.2.2.2.2.2 y6.2.2.2.2.2.1 y6.2.2.2.1 y6.2.2.2.2.1) fun y15 =>
some (y15.2.2.1, (0 : Int))) (fun o12 => some o12)
-- tatting/port.cut
def r18 (f46 : LL_ → LL_ → Option (LI_ × LI_ × Int)) (f49 : Int → LI_ → Option (LL_ × Int)) (f50 : LI_ → LI_ → Option (Int × Int)) (f51 : LI_ → LI_ → Option (LI_ × LI_)) (a0 : Int) (a1 : LI_) (a2 : LI_) : Option ((LL_ × (LL_ × (LI_ × (LI_ × (Int × (Int × (LI_ × LI_))))))) × Int) :=
Option.bind (f49 a0 a1) fun y1 =>
let v2 : (LL_ × (LL_ × (LI_ × (LI_ × (Int × (Int × (LI_ × LI_))))))) := (y1.1, (([] : List LI_), (([] : List LI_), (([] : List Int), (([] : List Int), ((0 : Int), ((0 : Int), (([] : List Int), ([] : List Int)))))))).2)
let v3 : Bool := !decide (y1.2 = (0 : Int))
bif v3 then
let v4 : (LL_ × (LL_ × (LI_ × (LI_ × (Int × (Int × (LI_ × LI_))))))) := (([] : List LI_), (([] : List LI_), (([] : List Int), (([] : List Int), ((0 : Int), ((0 : Int), (([] : List Int), ([] : List Int))))))))
some (v4, y1.2)
else
Option.bind (f49 a0 a2) fun y5 =>
let v6 : (LL_ × (LL_ × (LI_ × (LI_ × (Int × (Int × (LI_ × LI_))))))) := (v2.1, (y5.1, v2.2.2))
Option.bind (f46 v6.1 v6.2.1) fun y7 =>
let v8 : (LL_ × (LL_ × (LI_ × (LI_ × (Int × (Int × (LI_ × LI_))))))) := (v6.1, (v6.2.1, (y7.1, v6.2.2.2)))
let v9 : (LL_ × (LL_ × (LI_ × (LI_ × (Int × (Int × (LI_ × LI_))))))) := (v8.1, (v8.2.1, (v8.2.2.1, (y7.2.1, v8.2.2.2.2))))
Option.bind (f50 v9.2.2.1 v9.2.2.2.1) fun y10 =>
let v11 : (LL_ × (LL_ × (LI_ × (LI_ × (Int × (Int × (LI_ × LI_))))))) := (v9.1, (v9.2.1, (v9.2.2.1, (v9.2.2.2.1, (y10.1, v9.2.2.2.2.2)))))
let v12 : (LL_ × (LL_ × (LI_ × (LI_ × (Int × (Int × (LI_ × LI_))))))) := (v11.1, (v11.2.1, (v11.2.2.1, (v11.2.2.2.1, (v11.2.2.2.2.1, (y10.2, v11.2.2.2.2.2.2))))))
Option.bind (f51 v12.2.2.1 v12.2.2.2.1) fun y13 =>
let v14 : (LL_ × (LL_ × (LI_ × (LI_ × (Int × (Int × (LI_ × LI_))))))) := (v12.1, (v12.2.1, (v12.2.2.1, (v12.2.2.2.1, (v12.2.2.2.2.1, (v12.2.2.2.2.2.1, (y13.1, v12.2.2.2.2.2.2.2)))))))
let v15 : (LL_ × (LL_ × (LI_ × (LI_ × (Int × (Int × (LI_ × LI_))))))) := (v14.1, (v14.2.1, (v14.2.2.1, (v14.2.2.2.1, (v14.2.2.2.2.1, (v14.2.2.2.2.2.1, (v14.2.2.2.2.2.2.1, y13.2)))))))
some (v15, (0 : Int))
-- tatting/band.Within
def F19_0 (f52 : Int → Int → Int → Option (Int × Int × Bool)) (f53 : LI_ → LI_ → Int → Int → Int → (Int × LI_) → Option ((Int × LI_))) (f54 : (Int × LI_) → Int → Option (Int)) (f55 : Int → Int → Int → Option (Int)) (self : (LI_ × LI_ × Int × Int × Int × Int × Int × (Int × LI_)) → Option ((LI_ × LI_ × Int × Int × Int × Int × Int × (Int × LI_)) ⊕ (Int × Int × Int))) (z10 : LI_ × LI_ × Int × Int × Int × Int × Int × (Int × LI_)) : Option ((LI_ × LI_ × Int × Int × Int × Int × Int × (Int × LI_)) ⊕ (Int × Int × Int)) :=
let v11 : Bool := decide (z10.2.2.2.2.2.2.1 < z10.2.2.2.2.2.1)
bif v11 then
Option.bind (f53 z10.1 z10.2.1 z10.2.2.2.2.2.2.1 z10.2.2.2.1 z10.2.2.2.2.1 z10.2.2.2.2.2.2.2) fun y12 =>
let v13 : Int := IntKind.wrap .i64 (z10.2.2.2.2.2.2.1 + (1 : Int))
self (z10.1, z10.2.1, z10.2.2.1, z10.2.2.2.1, z10.2.2.2.2.1, z10.2.2.2.2.2.1, v13, y12)
else
some (.inl (z10.1, z10.2.1, z10.2.2.1, z10.2.2.2.1, z10.2.2.2.2.1, z10.2.2.2.2.2.1, z10.2.2.2.2.2.2.1, z10.2.2.2.2.2.2.2))
def r19 (f52 : Int → Int → Int → Option (Int × Int × Bool)) (f53 : LI_ → LI_ → Int → Int → Int → (Int × LI_) → Option ((Int × LI_))) (f54 : (Int × LI_) → Int → Option (Int)) (f55 : Int → Int → Int → Option (Int)) (lp0 : (LI_ × LI_ × Int × Int × Int × Int × Int × (Int × LI_)) → Option ((LI_ × LI_ × Int × Int × Int × Int × Int × (Int × LI_)) ⊕ (Int × Int × Int))) (a0 : LI_) (a1 : LI_) (a2 : Int) : Option (Int × Int × Int) :=
let v1 : Bool := decide (a2 < (0 : Int))
bif v1 then
some ((0 : Int), (0 : Int), (1 : Int))
else
let v2 : Int := (a0.length : Int)
let v3 : Int := (a1.length : Int)
Option.bind (f52 v2 v3 a2) fun y4 =>
let v5 : Bool := !y4.2.2
bif v5 then
some ((0 : Int), (0 : Int), (3 : Int))
else
let v6 : Int := (a0.length : Int)
let v7 : Int := IntKind.wrap .i64 (v6 + (1 : Int))
Option.bind (lp0 (a0, a1, a2, y4.1, y4.2.1, v7, (0 : Int), ((0 : Int), ([] : List Int)))) fun s8 => onSum s8 (fun y9 =>
let v15 : Int := (y9.2.1.length : Int)
Option.bind (f54 y9.2.2.2.2.2.2.2 v15) fun y16 =>
let v17 : Bool := decide (y16 ≤ y9.2.2.1)
bif v17 then
let v18 : Int := (y9.1.length : Int)
let v19 : Int := (y9.2.1.length : Int)
Option.bind (f55 v18 v19 y9.2.2.1) fun y20 =>
some (y16, y20, (0 : Int))
else
some ((0 : Int), (0 : Int), (3 : Int))) (fun o14 => some o14)
-- tatting/coded.Decode
def F20_0 (f56 : (LI_ × (Int × Int)) → Option (Bool × (LI_ × (Int × Int)))) (f57 : (LI_ × (Int × Int)) → Option (Int × Int × Int × Bool × (LI_ × (Int × Int)))) (f58 : Int → (LI_ × (Int × Int)) → Option (LL_ × Int × Bool × (LI_ × (Int × Int)))) (f59 : ByteArray → (LI_ × (Int × Int)) → Option (Bool × (LI_ × (Int × Int)))) (self : (LI_ × Int × HK_ × (LI_ × (Int × Int))) → Option ((LI_ × Int × HK_ × (LI_ × (Int × Int))) ⊕ (Int × HK_ × Int × Int))) (z6 : LI_ × Int × HK_ × (LI_ × (Int × Int))) : Option ((LI_ × Int × HK_ × (LI_ × (Int × Int))) ⊕ (Int × HK_ × Int × Int)) :=
let v7 : Int := (z6.1.length : Int)
let v8 : Bool := decide (z6.2.2.2.2.1 < v7)
bif v8 == true then
if 0 ≤ z6.2.2.2.2.1 ∧ z6.2.2.2.2.1 < (z6.1.length : Int) then
let v9 : Int := z6.1.getD z6.2.2.2.2.1.toNat (0 : Int)
let v10 : Bool := decide (v9 = (64 : Int))
bif v10 then
let v11 : (Int × (LL_ × LL_)) := ((0 : Int), (([] : List LI_), ([] : List LI_)))
Option.bind (f57 z6.2.2.2) fun y12 =>
let v13 : Bool := !y12.2.2.2.1
bif v13 == false then
let v14 : Bool := decide (y12.1 ≤ z6.2.1)
bif v14 == false then
let v15 : Int := IntKind.wrap .i64 (y12.2.1 + y12.2.2.1)
let v16 : Bool := decide (v15 = (0 : Int))
bif v16 then
some (.inr ((0 : Int), ([] : List (Int × (LL_ × LL_))), z6.2.2.2.2.1, (4 : Int)))
else
let v17 : (Int × (LL_ × LL_)) := (y12.1, v11.2)
Option.bind (f58 y12.2.1 y12.2.2.2.2) fun y18 =>
let v19 : (Int × (LL_ × LL_)) := (v17.1, (y18.1, v17.2.2))
let v20 : Bool := !y18.2.2.1
bif v20 then
some (.inr ((0 : Int), ([] : List (Int × (LL_ × LL_))), y18.2.1, (4 : Int)))
else
Option.bind (f58 y12.2.2.1 y18.2.2.2) fun y21 =>
let v22 : (Int × (LL_ × LL_)) := (v19.1, (v19.2.1, y21.1))
let v23 : Bool := !y21.2.2.1
bif v23 then
some (.inr ((0 : Int), ([] : List (Int × (LL_ × LL_))), y21.2.1, (4 : Int)))
else
let v24 : HK_ := ([v22] : List (Int × (LL_ × LL_)))
if (z6.2.2.1.length + v24.length) * 56 ≤ 140737488355328 ∧ z6.2.2.1.length + v24.length ≤ 140737488355328 then
let v25 : HK_ := z6.2.2.1 ++ v24
let v26 : Int := IntKind.wrap .i64 (y12.1 + y12.2.1)
self (z6.1, v26, v25, y21.2.2.2)
else none
else
some (.inr ((0 : Int), ([] : List (Int × (LL_ × LL_))), z6.2.2.2.2.1, (4 : Int)))
else
some (.inr ((0 : Int), ([] : List (Int × (LL_ × LL_))), z6.2.2.2.2.1, (4 : Int)))
else
some (.inl (z6.1, z6.2.1, z6.2.2.1, z6.2.2.2))
else none
else
some (.inl (z6.1, z6.2.1, z6.2.2.1, z6.2.2.2))
def r20 (f56 : (LI_ × (Int × Int)) → Option (Bool × (LI_ × (Int × Int)))) (f57 : (LI_ × (Int × Int)) → Option (Int × Int × Int × Bool × (LI_ × (Int × Int)))) (f58 : Int → (LI_ × (Int × Int)) → Option (LL_ × Int × Bool × (LI_ × (Int × Int)))) (f59 : ByteArray → (LI_ × (Int × Int)) → Option (Bool × (LI_ × (Int × Int)))) (lp0 : (LI_ × Int × HK_ × (LI_ × (Int × Int))) → Option ((LI_ × Int × HK_ × (LI_ × (Int × Int))) ⊕ (Int × HK_ × Int × Int))) (a0 : LI_) : Option (Int × HK_ × Int × Int) :=
let v1 : (LI_ × (Int × Int)) := (a0, ((0 : Int), (0 : Int)))
Option.bind (f56 v1) fun y2 =>
let v3 : Bool := !y2.1
bif v3 then
some ((0 : Int), ([] : List (Int × (LL_ × LL_))), (0 : Int), (4 : Int))
else
Option.bind (lp0 (a0, (-1 : Int), ([] : List (Int × (LL_ × LL_))), y2.2)) fun s4 => onSum s4 (fun y5 =>
Option.bind (f59 (⟨#[46, 10]⟩ : ByteArray) y5.2.2.2) fun y28 =>
let v29 : Bool := !y28.1
bif v29 then
some ((0 : Int), ([] : List (Int × (LL_ × LL_))), y5.2.2.2.2.1, (4 : Int))
else
let v30 : Int := (y5.1.length : Int)
let v31 : Bool := decide (y28.2.2.1 < v30)
bif v31 then
some ((0 : Int), ([] : List (Int × (LL_ × LL_))), y28.2.2.1, (4 : Int))
else
some (y28.2.2.2, y5.2.2.1, (0 : Int), (0 : Int))) (fun o27 => some o27)
-- tatting/port.carry
def r21 (f49 : Int → LI_ → Option (LL_ × Int)) (f60 : HK_ → LL_ → Option (LL_ × Int)) (f61 : LL_ → Option (LI_)) (a0 : Int) (a1 : HK_) (a2 : LI_) : Option (LI_ × Int) :=
Option.bind (f49 a0 a2) fun y1 =>
let v2 : Bool := !decide (y1.2 = (0 : Int))
bif v2 then
some (([] : List Int), y1.2)
else
Option.bind (f60 a1 y1.1) fun y3 =>
let v4 : Bool := !decide (y3.2 = (0 : Int))
bif v4 then
some (([] : List Int), y3.2)
else
Option.bind (f61 y3.1) fun y5 =>
some (y5, (0 : Int))
-- tatting/patch.Invert
def F22_0 (f62 : HK_ → Option (Bool)) (f63 : LL_ → LL_ → Option (LL_)) (self : (Int × HK_ × Int × Int × HK_) → Option ((Int × HK_ × Int × Int × HK_) ⊕ (HK_ × Int))) (z6 : Int × HK_ × Int × Int × HK_) : Option ((Int × HK_ × Int × Int × HK_) ⊕ (HK_ × Int)) :=
let v7 : Bool := decide (z6.2.2.2.1 < z6.2.2.1)
bif v7 then
if 0 ≤ z6.2.2.2.1 ∧ z6.2.2.2.1 < (z6.2.1.length : Int) then
let v8 : (Int × (LL_ × LL_)) := z6.2.1.getD z6.2.2.2.1.toNat ((0 : Int), (([] : List LI_), ([] : List LI_)))
let v9 : Int := IntKind.wrap .i64 (v8.1 + z6.1)
let v10 : Bool := decide (v9 > (1048576 : Int))
bif v10 then
some (.inr (([] : List (Int × (LL_ × LL_))), (2 : Int)))
else
Option.bind (f63 v8.2.2 ([] : List LI_)) fun y11 =>
Option.bind (f63 v8.2.1 ([] : List LI_)) fun y12 =>
let v13 : (Int × (LL_ × LL_)) := (v9, (y11, y12))
let v14 : HK_ := ([v13] : List (Int × (LL_ × LL_)))
if (z6.2.2.2.2.length + v14.length) * 56 ≤ 140737488355328 ∧ z6.2.2.2.2.length + v14.length ≤ 140737488355328 then
let v15 : HK_ := z6.2.2.2.2 ++ v14
let v16 : Int := (v8.2.2.length : Int)
let v17 : Int := (v8.2.1.length : Int)
let v18 : Int := IntKind.wrap .i64 (v16 - v17)
let v19 : Int := IntKind.wrap .i64 (z6.1 + v18)
let v20 : Int := IntKind.wrap .i64 (z6.2.2.2.1 + (1 : Int))
self (v19, z6.2.1, z6.2.2.1, v20, v15)
else none
else none
else
some (.inl (z6.1, z6.2.1, z6.2.2.1, z6.2.2.2.1, z6.2.2.2.2))
def r22 (f62 : HK_ → Option (Bool)) (f63 : LL_ → LL_ → Option (LL_)) (lp0 : (Int × HK_ × Int × Int × HK_) → Option ((Int × HK_ × Int × Int × HK_) ⊕ (HK_ × Int))) (a0 : HK_) : Option (HK_ × Int) :=
Option.bind (f62 a0) fun y1 =>
let v2 : Bool := !y1
bif v2 then
some (([] : List (Int × (LL_ × LL_))), (1 : Int))
else
let v3 : Int := (a0.length : Int)
Option.bind (lp0 ((0 : Int), a0, v3, (0 : Int), ([] : List (Int × (LL_ × LL_))))) fun s4 => onSum s4 (fun y5 =>
some (y5.2.2.2.2, (0 : Int))) (fun o21 => some o21)
-- tatting/port.Steps
def r23 (f13 : Int → Int → LI_ → LI_ → (Int × Int) → Option ((LL_ × (LL_ × (LI_ × (LI_ × (Int × (Int × (LI_ × LI_))))))) × Int × Int)) (f14 : Int → LI_ → LI_ → Option ((List (Int × Int)) × Int)) (a0 : Int) (a1 : Int) (a2 : LI_) (a3 : LI_) (a4 : (Int × Int)) : Option (Int × Int × Int) :=
Option.bind (f13 a0 a1 a2 a3 a4) fun y1 =>
let v2 : Bool := !decide (y1.2.2 = (0 : Int))
bif v2 then
some ((0 : Int), (0 : Int), y1.2.2)
else
Option.bind (f14 y1.2.1 y1.1.2.2.2.2.2.2.1 y1.1.2.2.2.2.2.2.2) fun y3 =>
some (y1.2.1, y3.2, (0 : Int))
-- tatting/tok.Count
def r29 (f70 : LI_ → LI_ → Option (Int)) (a0 : Int) (a1 : LI_) : Option (Int × Int) :=
let v1 : Bool := decide (a0 = (0 : Int))
bif v1 then
let v2 : Int := (a1.length : Int)
some (v2, (0 : Int))
else
let v3 : Bool := decide (a0 = (1 : Int))
bif v3 then
let v4 : LI_ := ([(10 : Int)] : List Int)
Option.bind (f70 a1 v4) fun y5 =>
let v6 : Int := (a1.length : Int)
let v7 : Bool := decide (v6 > (0 : Int))
bif v7 == true then
let v8 : Int := (a1.length : Int)
let v9 : Int := IntKind.wrap .i64 (v8 - (1 : Int))
if 0 ≤ v9 ∧ v9 < (a1.length : Int) then
let v10 : Int := a1.getD v9.toNat (0 : Int)
let v11 : Bool := !decide (v10 = (10 : Int))
bif v11 then
let v12 : Int := IntKind.wrap .i64 (y5 + (1 : Int))
some (v12, (0 : Int))
else
some (y5, (0 : Int))
else none
else
some (y5, (0 : Int))
else
some ((0 : Int), (1 : Int))
-- tatting/cost.Choose
def F31_0 (f71 : Int → (Int × (Int × (Int × Int))) → Option (Int × Int)) (self : (Int × Int × Int × (Int × (Int × (Int × Int)))) → Option ((Int × Int × Int × (Int × (Int × (Int × Int)))) ⊕ (Int))) (z3 : Int × Int × Int × (Int × (Int × (Int × Int)))) : Option ((Int × Int × Int × (Int × (Int × (Int × Int)))) ⊕ (Int)) :=
let v4 : Bool := decide (z3.2.2.1 ≤ (8 : Int))
bif v4 then
Option.bind (f71 z3.2.2.1 z3.2.2.2) fun y5 =>
let v6 : Bool := decide (y5.2 = (0 : Int))
bif v6 == true then
let v7 : Bool := decide (z3.1 = (0 : Int))
bif v7 == false then
let v8 : Bool := decide (y5.1 < z3.2.1)
bif v8 then
let v9 : Int := IntKind.wrap .i64 (z3.2.2.1 + (1 : Int))
self (z3.2.2.1, y5.1, v9, z3.2.2.2)
else
let v10 : Int := IntKind.wrap .i64 (z3.2.2.1 + (1 : Int))
self (z3.1, z3.2.1, v10, z3.2.2.2)
else
let v11 : Int := IntKind.wrap .i64 (z3.2.2.1 + (1 : Int))
self (z3.2.2.1, y5.1, v11, z3.2.2.2)
else
let v12 : Int := IntKind.wrap .i64 (z3.2.2.1 + (1 : Int))
self (z3.1, z3.2.1, v12, z3.2.2.2)
else
some (.inl (z3.1, z3.2.1, z3.2.2.1, z3.2.2.2))
def r31 (f71 : Int → (Int × (Int × (Int × Int))) → Option (Int × Int)) (lp0 : (Int × Int × Int × (Int × (Int × (Int × Int)))) → Option ((Int × Int × Int × (Int × (Int × (Int × Int)))) ⊕ (Int))) (a0 : (Int × (Int × (Int × Int)))) : Option (Int) :=
Option.bind (lp0 ((0 : Int), (0 : Int), (1 : Int), a0)) fun s1 => onSum s1 (fun y2 =>
some y2.1) (fun o13 => some o13)
-- tatting/cost.Fits
def r32 (f72 : Int → (Int × (Int × (Int × Int))) → Option (Int × Int)) (a0 : Int) (a1 : (Int × (Int × (Int × Int)))) (a2 : Int) : Option (Int) :=
Option.bind (f72 a0 a1) fun y1 =>
let v2 : Bool := decide (y1.2 = (0 : Int))
bif v2 == true then
let v3 : Bool := decide (y1.1 > a2)
bif v3 then
some (2 : Int)
else
some y1.2
else
some y1.2
-- tatting/grid.Run
def F33_0 (f73 : LI_ → LI_ → Option (LL_)) (self : (LI_ × LI_ × LL_ × Int × Int × (List (Int × Int))) → Option ((LI_ × LI_ × LL_ × Int × Int × (List (Int × Int))) ⊕ ((List (Int × Int)) × Int))) (z4 : LI_ × LI_ × LL_ × Int × Int × (List (Int × Int))) : Option ((LI_ × LI_ × LL_ × Int × Int × (List (Int × Int))) ⊕ ((List (Int × Int)) × Int)) :=
let v5 : Int := (z4.1.length : Int)
let v6 : Bool := decide (z4.2.2.2.1 < v5)
bif v6 == true then
let v7 : Int := (z4.2.1.length : Int)
let v8 : Bool := decide (z4.2.2.2.2.1 < v7)
bif v8 then
if 0 ≤ z4.2.2.2.1 ∧ z4.2.2.2.1 < (z4.1.length : Int) then
let v9 : Int := z4.1.getD z4.2.2.2.1.toNat (0 : Int)
if 0 ≤ z4.2.2.2.2.1 ∧ z4.2.2.2.2.1 < (z4.2.1.length : Int) then
let v10 : Int := z4.2.1.getD z4.2.2.2.2.1.toNat (0 : Int)
let v11 : Bool := decide (v9 = v10)
bif v11 then
let v12 : (Int × Int) := (z4.2.2.2.1, z4.2.2.2.2.1)
let v13 : (List (Int × Int)) := ([v12] : List (Int × Int))
if (z4.2.2.2.2.2.length + v13.length) * 16 ≤ 140737488355328 ∧ z4.2.2.2.2.2.length + v13.length ≤ 140737488355328 then
let v14 : (List (Int × Int)) := z4.2.2.2.2.2 ++ v13
let v15 : Int := IntKind.wrap .i64 (z4.2.2.2.1 + (1 : Int))
let v16 : Int := IntKind.wrap .i64 (z4.2.2.2.2.1 + (1 : Int))
self (z4.1, z4.2.1, z4.2.2.1, v15, v16, v14)
else none
else
let v17 : Int := IntKind.wrap .i64 (z4.2.2.2.1 + (1 : Int))
if 0 ≤ v17 ∧ v17 < (z4.2.2.1.length : Int) then
let v18 : LI_ := z4.2.2.1.getD v17.toNat ([] : List Int)
if 0 ≤ z4.2.2.2.2.1 ∧ z4.2.2.2.2.1 < (v18.length : Int) then
let v19 : Int := v18.getD z4.2.2.2.2.1.toNat (0 : Int)
if 0 ≤ z4.2.2.2.1 ∧ z4.2.2.2.1 < (z4.2.2.1.length : Int) then
let v20 : LI_ := z4.2.2.1.getD z4.2.2.2.1.toNat ([] : List Int)
let v21 : Int := IntKind.wrap .i64 (z4.2.2.2.2.1 + (1 : Int))
if 0 ≤ v21 ∧ v21 < (v20.length : Int) then
let v22 : Int := v20.getD v21.toNat (0 : Int)
let v23 : Bool := decide (v19 ≥ v22)
bif v23 then
let v24 : Int := IntKind.wrap .i64 (z4.2.2.2.1 + (1 : Int))
self (z4.1, z4.2.1, z4.2.2.1, v24, z4.2.2.2.2.1, z4.2.2.2.2.2)
else
let v25 : Int := IntKind.wrap .i64 (z4.2.2.2.2.1 + (1 : Int))
self (z4.1, z4.2.1, z4.2.2.1, z4.2.2.2.1, v25, z4.2.2.2.2.2)
else none
else none
else none
else none
else none
else none
else
some (.inl (z4.1, z4.2.1, z4.2.2.1, z4.2.2.2.1, z4.2.2.2.2.1, z4.2.2.2.2.2))
else
some (.inl (z4.1, z4.2.1, z4.2.2.1, z4.2.2.2.1, z4.2.2.2.2.1, z4.2.2.2.2.2))
def r33 (f73 : LI_ → LI_ → Option (LL_)) (lp0 : (LI_ × LI_ × LL_ × Int × Int × (List (Int × Int))) → Option ((LI_ × LI_ × LL_ × Int × Int × (List (Int × Int))) ⊕ ((List (Int × Int)) × Int))) (a0 : LI_) (a1 : LI_) : Option ((List (Int × Int)) × Int) :=
Option.bind (f73 a0 a1) fun y1 =>
Option.bind (lp0 (a0, a1, y1, (0 : Int), (0 : Int), ([] : List (Int × Int)))) fun s2 => onSum s2 (fun y3 =>
let v27 : Int := (y3.1.length : Int)
let v28 : Int := (y3.2.1.length : Int)
let v29 : Int := IntKind.wrap .i64 (v27 * v28)
some (y3.2.2.2.2.2, v29)) (fun o26 => some o26)
-- tatting/trim.count
def r42 (a0 : Int) : Option (Bool) :=
let v1 : Bool := decide (a0 ≥ (0 : Int))
bif v1 == true then
let v2 : Bool := decide (a0 ≤ (1048576 : Int))
some v2
else
some false
-- tatting/pairs.Good
def F43_0 (f97 : LI_ → Int → Option (Bool)) (self : (LI_ × LI_ × (List (Int × Int)) × Int × Int × (Int × Int)) → Option ((LI_ × LI_ × (List (Int × Int)) × Int × Int × (Int × Int)) ⊕ (Bool))) (z5 : LI_ × LI_ × (List (Int × Int)) × Int × Int × (Int × Int)) : Option ((LI_ × LI_ × (List (Int × Int)) × Int × Int × (Int × Int)) ⊕ (Bool)) :=
let v6 : Bool := decide (z5.2.2.2.2.1 < z5.2.2.2.1)
bif v6 then
if 0 ≤ z5.2.2.2.2.1 ∧ z5.2.2.2.2.1 < (z5.2.2.1.length : Int) then
let v7 : (Int × Int) := z5.2.2.1.getD z5.2.2.2.2.1.toNat ((0 : Int), (0 : Int))
Option.bind (f97 z5.1 v7.1) fun y8 =>
let v9 : Bool := !y8
bif v9 == false then
Option.bind (f97 z5.2.1 v7.2) fun y10 =>
let v11 : Bool := !y10
bif v11 == false then
if 0 ≤ v7.1 ∧ v7.1 < (z5.1.length : Int) then
let v12 : Int := z5.1.getD v7.1.toNat (0 : Int)
if 0 ≤ v7.2 ∧ v7.2 < (z5.2.1.length : Int) then
let v13 : Int := z5.2.1.getD v7.2.toNat (0 : Int)
let v14 : Bool := !decide (v12 = v13)
bif v14 == false then
let v15 : Bool := decide (v7.1 ≤ z5.2.2.2.2.2.1)
bif v15 == false then
let v16 : Bool := decide (v7.2 ≤ z5.2.2.2.2.2.2)
bif v16 then
some (.inr false)
else
let v17 : Int := IntKind.wrap .i64 (z5.2.2.2.2.1 + (1 : Int))
self (z5.1, z5.2.1, z5.2.2.1, z5.2.2.2.1, v17, v7)
else
some (.inr false)
else
some (.inr false)
else none
else none
else
some (.inr false)
else
some (.inr false)
else none
else
some (.inl (z5.1, z5.2.1, z5.2.2.1, z5.2.2.2.1, z5.2.2.2.2.1, z5.2.2.2.2.2))
def r43 (f97 : LI_ → Int → Option (Bool)) (lp0 : (LI_ × LI_ × (List (Int × Int)) × Int × Int × (Int × Int)) → Option ((LI_ × LI_ × (List (Int × Int)) × Int × Int × (Int × Int)) ⊕ (Bool))) (a0 : LI_) (a1 : LI_) (a2 : (List (Int × Int))) : Option (Bool) :=
let v1 : (Int × Int) := ((-1 : Int), (-1 : Int))
let v2 : Int := (a2.length : Int)
Option.bind (lp0 (a0, a1, a2, v2, (0 : Int), v1)) fun s3 => onSum s3 (fun y4 =>
some true) (fun o18 => some o18)
-- tatting/grid.Len
def F44_0 (lp1 : (LI_ × LI_ × Int × Int × Int × LI_) → Option ((LI_ × LI_ × Int × Int × Int × LI_) ⊕ (Int))) (self : (LI_ × LI_ × Int × LI_) → Option ((LI_ × LI_ × Int × LI_) ⊕ (Int))) (z8 : LI_ × LI_ × Int × LI_) : Option ((LI_ × LI_ × Int × LI_) ⊕ (Int)) :=
let v9 : Bool := decide (z8.2.2.1 ≥ (0 : Int))
bif v9 then
let v10 : Int := (z8.2.1.length : Int)
let v11 : Int := IntKind.wrap .i64 (v10 - (1 : Int))
Option.bind (lp1 (z8.1, z8.2.1, z8.2.2.1, (0 : Int), v11, z8.2.2.2)) fun s12 => onSum s12 (fun y13 =>
let v30 : Int := IntKind.wrap .i64 (y13.2.2.1 - (1 : Int))
self (y13.1, y13.2.1, v30, y13.2.2.2.2.2)) (fun o29 => some (.inr o29))
else
some (.inl (z8.1, z8.2.1, z8.2.2.1, z8.2.2.2))
def F44_1 (self : (LI_ × LI_ × Int × Int × Int × LI_) → Option ((LI_ × LI_ × Int × Int × Int × LI_) ⊕ (Int))) (z14 : LI_ × LI_ × Int × Int × Int × LI_) : Option ((LI_ × LI_ × Int × Int × Int × LI_) ⊕ (Int)) :=
let v15 : Bool := decide (z14.2.2.2.2.1 ≥ (0 : Int))
bif v15 then
if 0 ≤ z14.2.2.2.2.1 ∧ z14.2.2.2.2.1 < (z14.2.2.2.2.2.length : Int) then
let v16 : Int := (z14.2.2.2.2.2.getD z14.2.2.2.2.1.toNat (0 : Int))
if 0 ≤ z14.2.2.1 ∧ z14.2.2.1 < (z14.1.length : Int) then
let v17 : Int := z14.1.getD z14.2.2.1.toNat (0 : Int)
if 0 ≤ z14.2.2.2.2.1 ∧ z14.2.2.2.2.1 < (z14.2.1.length : Int) then
let v18 : Int := z14.2.1.getD z14.2.2.2.2.1.toNat (0 : Int)
let v19 : Bool := decide (v17 = v18)
bif v19 then
let v20 : Int := IntKind.wrap .i64 (z14.2.2.2.1 + (1 : Int))
if 0 ≤ z14.2.2.2.2.1 ∧ z14.2.2.2.2.1 < (z14.2.2.2.2.2.length : Int) then
let v21 : LI_ := z14.2.2.2.2.2.set z14.2.2.2.2.1.toNat v20
let v22 : Int := IntKind.wrap .i64 (z14.2.2.2.2.1 - (1 : Int))
self (z14.1, z14.2.1, z14.2.2.1, v16, v22, v21)
else none
else
if 0 ≤ z14.2.2.2.2.1 ∧ z14.2.2.2.2.1 < (z14.2.2.2.2.2.length : Int) then
let v23 : Int := (z14.2.2.2.2.2.getD z14.2.2.2.2.1.toNat (0 : Int))
let v24 : Int := IntKind.wrap .i64 (z14.2.2.2.2.1 + (1 : Int))
if 0 ≤ v24 ∧ v24 < (z14.2.2.2.2.2.length : Int) then
let v25 : Int := (z14.2.2.2.2.2.getD v24.toNat (0 : Int))
let v26 : Int := if v25 > v23 then v25 else v23
if 0 ≤ z14.2.2.2.2.1 ∧ z14.2.2.2.2.1 < (z14.2.2.2.2.2.length : Int) then
let v27 : LI_ := z14.2.2.2.2.2.set z14.2.2.2.2.1.toNat v26
let v28 : Int := IntKind.wrap .i64 (z14.2.2.2.2.1 - (1 : Int))
self (z14.1, z14.2.1, z14.2.2.1, v16, v28, v27)
else none
else none
else none
else none
else none
else none
else
some (.inl (z14.1, z14.2.1, z14.2.2.1, z14.2.2.2.1, z14.2.2.2.2.1, z14.2.2.2.2.2))
def r44 (lp0 : (LI_ × LI_ × Int × LI_) → Option ((LI_ × LI_ × Int × LI_) ⊕ (Int))) (lp1 : (LI_ × LI_ × Int × Int × Int × LI_) → Option ((LI_ × LI_ × Int × Int × Int × LI_) ⊕ (Int))) (a0 : LI_) (a1 : LI_) : Option (Int) :=
let v1 : Int := (a1.length : Int)
let v2 : Int := IntKind.wrap .i64 (v1 + (1 : Int))
if 0 ≤ v2 ∧ v2 ≤ v2 ∧ v2 * (8 : Int) ≤ 140737488355328 ∧ v2 ≤ 140737488355328 then
let v3 : LI_ := List.replicate v2.toNat (0 : Int)
let v4 : Int := (a0.length : Int)
let v5 : Int := IntKind.wrap .i64 (v4 - (1 : Int))
Option.bind (lp0 (a0, a1, v5, v3)) fun s6 => onSum s6 (fun y7 =>
if 0 ≤ (0 : Int) ∧ (0 : Int) < (y7.2.2.2.length : Int) then
let v32 : Int := (y7.2.2.2.getD (0 : Int).toNat (0 : Int))
some v32
else none) (fun o31 => some o31)
else none
-- tatting/least.Of
def F45_0 (f73 : LI_ → LI_ → Option (LL_)) (f98 : LL_ → LI_ → LI_ → Int → Int → Option ((Int × Int) × Bool)) (self : (LI_ × LI_ × LL_ × Int × Int × (List (Int × Int))) → Option ((LI_ × LI_ × LL_ × Int × Int × (List (Int × Int))) ⊕ ((List (Int × Int))))) (z4 : LI_ × LI_ × LL_ × Int × Int × (List (Int × Int))) : Option ((LI_ × LI_ × LL_ × Int × Int × (List (Int × Int))) ⊕ ((List (Int × Int)))) :=
Option.bind (f98 z4.2.2.1 z4.1 z4.2.1 z4.2.2.2.1 z4.2.2.2.2.1) fun y5 =>
let v6 : Bool := !y5.2
bif v6 then
some (.inr z4.2.2.2.2.2)
else
let v7 : (List (Int × Int)) := ([y5.1] : List (Int × Int))
if (z4.2.2.2.2.2.length + v7.length) * 16 ≤ 140737488355328 ∧ z4.2.2.2.2.2.length + v7.length ≤ 140737488355328 then
let v8 : (List (Int × Int)) := z4.2.2.2.2.2 ++ v7
let v9 : Int := IntKind.wrap .i64 (y5.1.1 + (1 : Int))
let v10 : Int := IntKind.wrap .i64 (y5.1.2 + (1 : Int))
self (z4.1, z4.2.1, z4.2.2.1, v9, v10, v8)
else none
def r45 (f73 : LI_ → LI_ → Option (LL_)) (f98 : LL_ → LI_ → LI_ → Int → Int → Option ((Int × Int) × Bool)) (lp0 : (LI_ × LI_ × LL_ × Int × Int × (List (Int × Int))) → Option ((LI_ × LI_ × LL_ × Int × Int × (List (Int × Int))) ⊕ ((List (Int × Int))))) (a0 : LI_) (a1 : LI_) : Option ((List (Int × Int))) :=
Option.bind (f73 a0 a1) fun y1 =>
Option.bind (lp0 (a0, a1, y1, (0 : Int), (0 : Int), ([] : List (Int × Int)))) fun s2 => onSum s2 (fun y3 =>
none) (fun o11 => some o11)
-- tatting/names.Two
def r46 (f99 : LL_ → Option (LL_)) (f100 : (List LL_) → Option (LL_)) (f101 : LL_ → LL_ → Option (LI_ × Bool)) (a0 : LL_) (a1 : LL_) : Option (LI_ × LI_ × Int) :=
let v1 : (List LL_) := ([a0, a1] : List LL_)
Option.bind (f100 v1) fun y2 =>
Option.bind (f99 y2) fun y3 =>
Option.bind (f101 y3 a0) fun y4 =>
Option.bind (f101 y3 a1) fun y5 =>
let v6 : Int := (y3.length : Int)
some (y4.1, y5.1, v6)
-- tatting/edit.Make$1
def r47 (f48 : LL_ → Option (LL_)) (a0 : Int) (a1 : Int) (a2 : Int) (a3 : Int) (a4 : HK_) (a5 : LL_) (a6 : LL_) : Option (Int × Int × HK_ × LL_ × LL_) :=
let v1 : Bool := decide (a2 < a0)
bif v1 == false then
let v2 : Bool := decide (a3 < a1)
bif v2 then
if 0 ≤ a2 ∧ a2 ≤ a0 ∧ a0 ≤ (a5.length : Int) then
let v3 : LL_ := cut a5 a2 a0
Option.bind (f48 v3) fun y4 =>
if 0 ≤ a3 ∧ a3 ≤ a1 ∧ a1 ≤ (a6.length : Int) then
let v5 : LL_ := cut a6 a3 a1
Option.bind (f48 v5) fun y6 =>
let v7 : (Int × (LL_ × LL_)) := (a2, (y4, y6))
let v8 : HK_ := ([v7] : List (Int × (LL_ × LL_)))
if (a4.length + v8.length) * 56 ≤ 140737488355328 ∧ a4.length + v8.length ≤ 140737488355328 then
let v9 : HK_ := a4 ++ v8
let v10 : Int := IntKind.wrap .i64 (a0 + (1 : Int))
let v11 : Int := IntKind.wrap .i64 (a1 + (1 : Int))
some (v10, v11, v9, a5, a6)
else none
else none
else none
else
let v12 : Int := IntKind.wrap .i64 (a0 + (1 : Int))
let v13 : Int := IntKind.wrap .i64 (a1 + (1 : Int))
some (v12, v13, a4, a5, a6)
else
if 0 ≤ a2 ∧ a2 ≤ a0 ∧ a0 ≤ (a5.length : Int) then
let v14 : LL_ := cut a5 a2 a0
Option.bind (f48 v14) fun y15 =>
if 0 ≤ a3 ∧ a3 ≤ a1 ∧ a1 ≤ (a6.length : Int) then
let v16 : LL_ := cut a6 a3 a1
Option.bind (f48 v16) fun y17 =>
let v18 : (Int × (LL_ × LL_)) := (a2, (y15, y17))
let v19 : HK_ := ([v18] : List (Int × (LL_ × LL_)))
if (a4.length + v19.length) * 56 ≤ 140737488355328 ∧ a4.length + v19.length ≤ 140737488355328 then
let v20 : HK_ := a4 ++ v19
let v21 : Int := IntKind.wrap .i64 (a0 + (1 : Int))
let v22 : Int := IntKind.wrap .i64 (a1 + (1 : Int))
some (v21, v22, v20, a5, a6)
else none
else none
else none
-- tatting/edit.tokens
def F48_0 (f102 : LI_ → Option (LI_)) (self : (LL_ × Int × Int × LL_) → Option ((LL_ × Int × Int × LL_) ⊕ (LL_))) (z4 : LL_ × Int × Int × LL_) : Option ((LL_ × Int × Int × LL_) ⊕ (LL_)) :=
let v5 : Bool := decide (z4.2.2.1 < z4.2.1)
bif v5 then
if 0 ≤ z4.2.2.1 ∧ z4.2.2.1 < (z4.1.length : Int) then
let v6 : LI_ := z4.1.getD z4.2.2.1.toNat ([] : List Int)
Option.bind (f102 v6) fun y7 =>
let v8 : LL_ := ([y7] : List LI_)
if (z4.2.2.2.length + v8.length) * 24 ≤ 140737488355328 ∧ z4.2.2.2.length + v8.length ≤ 140737488355328 then
let v9 : LL_ := z4.2.2.2 ++ v8
let v10 : Int := IntKind.wrap .i64 (z4.2.2.1 + (1 : Int))
self (z4.1, z4.2.1, v10, v9)
else none
else none
else
some (.inl (z4.1, z4.2.1, z4.2.2.1, z4.2.2.2))
def r48 (f102 : LI_ → Option (LI_)) (lp0 : (LL_ × Int × Int × LL_) → Option ((LL_ × Int × Int × LL_) ⊕ (LL_))) (a0 : LL_) : Option (LL_) :=
let v1 : Int := (a0.length : Int)
Option.bind (lp0 (a0, v1, (0 : Int), ([] : List LI_))) fun s2 => onSum s2 (fun y3 =>
some y3.2.2.2) (fun o11 => some o11)
-- tatting/tok.Cut
def F49_0 (f102 : LI_ → Option (LI_)) (f103 : Int → Option (Bool)) (f104 : LI_ → Int → Option (Int)) (self : (Int × LI_ × LL_) → Option ((Int × LI_ × LL_) ⊕ (LL_ × Int))) (z5 : Int × LI_ × LL_) : Option ((Int × LI_ × LL_) ⊕ (LL_ × Int)) :=
let v6 : Int := (z5.2.1.length : Int)
let v7 : Bool := decide (v6 > (0 : Int))
bif v7 then
let v8 : Bool := decide (z5.1 = (1 : Int))
bif v8 then
Option.bind (f104 z5.2.1 (10 : Int)) fun y9 =>
let v10 : Int := IntKind.wrap .i64 (y9 + (1 : Int))
let v11 : Bool := decide (v10 = (0 : Int))
bif v11 then
let v12 : Int := (z5.2.1.length : Int)
if 0 ≤ (0 : Int) ∧ (0 : Int) ≤ v12 ∧ v12 ≤ (z5.2.1.length : Int) then
let v13 : LI_ := cut z5.2.1 (0 : Int) v12
Option.bind (f102 v13) fun y14 =>
let v15 : LL_ := ([y14] : List LI_)
if (z5.2.2.length + v15.length) * 24 ≤ 140737488355328 ∧ z5.2.2.length + v15.length ≤ 140737488355328 then
let v16 : LL_ := z5.2.2 ++ v15
if 0 ≤ v12 ∧ v12 ≤ (z5.2.1.length : Int) ∧ (z5.2.1.length : Int) ≤ (z5.2.1.length : Int) then
let v17 : LI_ := cut z5.2.1 v12 (z5.2.1.length : Int)
self (z5.1, v17, v16)
else none
else none
else none
else
if 0 ≤ (0 : Int) ∧ (0 : Int) ≤ v10 ∧ v10 ≤ (z5.2.1.length : Int) then
let v18 : LI_ := cut z5.2.1 (0 : Int) v10
Option.bind (f102 v18) fun y19 =>
let v20 : LL_ := ([y19] : List LI_)
if (z5.2.2.length + v20.length) * 24 ≤ 140737488355328 ∧ z5.2.2.length + v20.length ≤ 140737488355328 then
let v21 : LL_ := z5.2.2 ++ v20
if 0 ≤ v10 ∧ v10 ≤ (z5.2.1.length : Int) ∧ (z5.2.1.length : Int) ≤ (z5.2.1.length : Int) then
let v22 : LI_ := cut z5.2.1 v10 (z5.2.1.length : Int)
self (z5.1, v22, v21)
else none
else none
else none
else
if 0 ≤ (0 : Int) ∧ (0 : Int) ≤ (1 : Int) ∧ (1 : Int) ≤ (z5.2.1.length : Int) then
let v23 : LI_ := cut z5.2.1 (0 : Int) (1 : Int)
Option.bind (f102 v23) fun y24 =>
let v25 : LL_ := ([y24] : List LI_)
if (z5.2.2.length + v25.length) * 24 ≤ 140737488355328 ∧ z5.2.2.length + v25.length ≤ 140737488355328 then
let v26 : LL_ := z5.2.2 ++ v25
if 0 ≤ (1 : Int) ∧ (1 : Int) ≤ (z5.2.1.length : Int) ∧ (z5.2.1.length : Int) ≤ (z5.2.1.length : Int) then
let v27 : LI_ := cut z5.2.1 (1 : Int) (z5.2.1.length : Int)
self (z5.1, v27, v26)
else none
else none
else none
else
some (.inl (z5.1, z5.2.1, z5.2.2))
def r49 (f102 : LI_ → Option (LI_)) (f103 : Int → Option (Bool)) (f104 : LI_ → Int → Option (Int)) (lp0 : (Int × LI_ × LL_) → Option ((Int × LI_ × LL_) ⊕ (LL_ × Int))) (a0 : Int) (a1 : LI_) : Option (LL_ × Int) :=
Option.bind (f103 a0) fun y1 =>
let v2 : Bool := !y1
bif v2 then
some (([] : List LI_), (1 : Int))
else
Option.bind (lp0 (a0, a1, ([] : List LI_))) fun s3 => onSum s3 (fun y4 =>
some (y4.2.2, (0 : Int))) (fun o28 => some o28)
-- tatting/trim.Of
def F50_0 (self : (LI_ × LI_ × Int × Int) → Option ((LI_ × LI_ × Int × Int) ⊕ (Int × Int))) (z3 : LI_ × LI_ × Int × Int) : Option ((LI_ × LI_ × Int × Int) ⊕ (Int × Int)) :=
let v4 : Int := (z3.1.length : Int)
let v5 : Bool := decide (z3.2.2.1 < v4)
bif v5 == true then
let v6 : Int := (z3.2.1.length : Int)
let v7 : Bool := decide (z3.2.2.1 < v6)
bif v7 == true then
if 0 ≤ z3.2.2.1 ∧ z3.2.2.1 < (z3.1.length : Int) then
let v8 : Int := z3.1.getD z3.2.2.1.toNat (0 : Int)
if 0 ≤ z3.2.2.1 ∧ z3.2.2.1 < (z3.2.1.length : Int) then
let v9 : Int := z3.2.1.getD z3.2.2.1.toNat (0 : Int)
let v10 : Bool := decide (v8 = v9)
bif v10 then
let v11 : Int := IntKind.wrap .i64 (z3.2.2.1 + (1 : Int))
self (z3.1, z3.2.1, v11, z3.2.2.2)
else
some (.inl (z3.1, z3.2.1, z3.2.2.1, z3.2.2.2))
else none
else none
else
some (.inl (z3.1, z3.2.1, z3.2.2.1, z3.2.2.2))
else
some (.inl (z3.1, z3.2.1, z3.2.2.1, z3.2.2.2))
def F50_1 (self : (LI_ × LI_ × Int × Int) → Option ((LI_ × LI_ × Int × Int) ⊕ (Int × Int))) (z17 : LI_ × LI_ × Int × Int) : Option ((LI_ × LI_ × Int × Int) ⊕ (Int × Int)) :=
let v18 : Int := (z17.1.length : Int)
let v19 : Bool := decide (z17.2.2.2 < v18)
bif v19 == true then
let v20 : Int := (z17.2.1.length : Int)
let v21 : Bool := decide (z17.2.2.2 < v20)
bif v21 == true then
let v22 : Int := (z17.1.length : Int)
let v23 : Int := IntKind.wrap .i64 (v22 - (1 : Int))
let v24 : Int := IntKind.wrap .i64 (v23 - z17.2.2.2)
if 0 ≤ v24 ∧ v24 < (z17.1.length : Int) then
let v25 : Int := z17.1.getD v24.toNat (0 : Int)
let v26 : Int := (z17.2.1.length : Int)
let v27 : Int := IntKind.wrap .i64 (v26 - (1 : Int))
let v28 : Int := IntKind.wrap .i64 (v27 - z17.2.2.2)
if 0 ≤ v28 ∧ v28 < (z17.2.1.length : Int) then
let v29 : Int := z17.2.1.getD v28.toNat (0 : Int)
let v30 : Bool := decide (v25 = v29)
bif v30 then
let v31 : Int := IntKind.wrap .i64 (z17.2.2.2 + (1 : Int))
self (z17.1, z17.2.1, z17.2.2.1, v31)
else
some (.inl (z17.1, z17.2.1, z17.2.2.1, z17.2.2.2))
else none
else none
else
some (.inl (z17.1, z17.2.1, z17.2.2.1, z17.2.2.2))
else
some (.inl (z17.1, z17.2.1, z17.2.2.1, z17.2.2.2))
def r50 (lp0 : (LI_ × LI_ × Int × Int) → Option ((LI_ × LI_ × Int × Int) ⊕ (Int × Int))) (lp1 : (LI_ × LI_ × Int × Int) → Option ((LI_ × LI_ × Int × Int) ⊕ (Int × Int))) (a0 : LI_) (a1 : LI_) : Option (Int × Int) :=
Option.bind (lp0 (a0, a1, (0 : Int), (0 : Int))) fun s1 => onSum s1 (fun y2 =>
if 0 ≤ y2.2.2.1 ∧ y2.2.2.1 ≤ (y2.1.length : Int) ∧ (y2.1.length : Int) ≤ (y2.1.length : Int) then
let v13 : LI_ := cut y2.1 y2.2.2.1 (y2.1.length : Int)
if 0 ≤ y2.2.2.1 ∧ y2.2.2.1 ≤ (y2.2.1.length : Int) ∧ (y2.2.1.length : Int) ≤ (y2.2.1.length : Int) then
let v14 : LI_ := cut y2.2.1 y2.2.2.1 (y2.2.1.length : Int)
Option.bind (lp1 (v13, v14, y2.2.2.1, y2.2.2.2)) fun s15 => onSum s15 (fun y16 =>
some (y16.2.2.1, y16.2.2.2)) (fun o32 => some o32)
else none
else none) (fun o12 => some o12)
-- tatting/trim.Mid
def r51 (f50 : LI_ → LI_ → Option (Int × Int)) (f105 : LI_ → Option (LI_)) (a0 : LI_) (a1 : LI_) : Option (LI_ × LI_) :=
Option.bind (f50 a0 a1) fun y1 =>
let v2 : Int := (a0.length : Int)
let v3 : Int := IntKind.wrap .i64 (v2 - y1.2)
if 0 ≤ y1.1 ∧ y1.1 ≤ v3 ∧ v3 ≤ (a0.length : Int) then
let v4 : LI_ := cut a0 y1.1 v3
Option.bind (f105 v4) fun y5 =>
let v6 : Int := (a1.length : Int)
let v7 : Int := IntKind.wrap .i64 (v6 - y1.2)
if 0 ≤ y1.1 ∧ y1.1 ≤ v7 ∧ v7 ≤ (a1.length : Int) then
let v8 : LI_ := cut a1 y1.1 v7
Option.bind (f105 v8) fun y9 =>
some (y5, y9)
else none
else none
-- tatting/band.edges
def r52 (a0 : Int) (a1 : Int) (a2 : Int) : Option (Int × Int × Bool) :=
let v1 : Int := IntKind.wrap .i64 (a0 - a1)
let v2 : Int := IntKind.wrap .i64 (0 - v1)
let v3 : Int := if v2 > v1 then v2 else v1
let v4 : Bool := decide (a2 < v3)
bif v4 then
some ((0 : Int), (0 : Int), false)
else
let v5 : Int := IntKind.wrap .i64 (0 - v1)
let v6 : Int := if v5 > v1 then v5 else v1
let v7 : Int := IntKind.wrap .i64 (a2 - v6)
if (2 : Int) = 0 then none else
let v8 : Int := IntKind.wrap .i64 (v7.tdiv (2 : Int))
let v9 : Int := IntKind.wrap .i64 (0 - a1)
let v10 : Int := if v1 < (0 : Int) then v1 else (0 : Int)
let v11 : Int := if a1 < v8 then a1 else v8
let v12 : Int := IntKind.wrap .i64 (v10 - v11)
let v13 : Int := if v12 > v9 then v12 else v9
let v14 : Int := if v1 > (0 : Int) then v1 else (0 : Int)
let v15 : Int := if a0 < v8 then a0 else v8
let v16 : Int := IntKind.wrap .i64 (v14 + v15)
let v17 : Int := if v16 < a0 then v16 else a0
some (v13, v17, true)
-- (tatting/band.line).at
def r54 (a0 : (Int × LI_)) (a1 : Int) : Option (Int) :=
let v1 : Bool := decide (a1 < a0.1)
bif v1 == false then
let v2 : Int := (a0.2.length : Int)
let v3 : Int := IntKind.wrap .i64 (a0.1 + v2)
let v4 : Bool := decide (a1 ≥ v3)
bif v4 then
some (1152921504606846976 : Int)
else
let v5 : Int := IntKind.wrap .i64 (a1 - a0.1)
if 0 ≤ v5 ∧ v5 < (a0.2.length : Int) then
let v6 : Int := a0.2.getD v5.toNat (0 : Int)
some v6
else none
else
some (1152921504606846976 : Int)
-- tatting/band.Cells
def F55_0 (f52 : Int → Int → Int → Option (Int × Int × Bool)) (f106 : Int → Option (Bool)) (self : (Int × Int × Int × Int × Int) → Option ((Int × Int × Int × Int × Int) ⊕ (Int))) (z10 : Int × Int × Int × Int × Int) : Option ((Int × Int × Int × Int × Int) ⊕ (Int)) :=
let v11 : Bool := decide (z10.2.2.2.2 ≤ z10.2.2.1)
bif v11 then
let v12 : Int := IntKind.wrap .i64 (z10.1 - z10.2.2.2.2)
let v13 : Int := if v12 < z10.2.1 then v12 else z10.2.1
let v14 : Int := IntKind.wrap .i64 (0 - z10.2.2.2.2)
let v15 : Int := if v14 > (0 : Int) then v14 else (0 : Int)
let v16 : Int := IntKind.wrap .i64 (v13 - v15)
let v17 : Int := IntKind.wrap .i64 (v16 + (1 : Int))
let v18 : Int := IntKind.wrap .i64 (z10.2.2.2.1 + v17)
let v19 : Int := IntKind.wrap .i64 (z10.2.2.2.2 + (1 : Int))
self (z10.1, z10.2.1, z10.2.2.1, v18, v19)
else
some (.inl (z10.1, z10.2.1, z10.2.2.1, z10.2.2.2.1, z10.2.2.2.2))
def r55 (f52 : Int → Int → Int → Option (Int × Int × Bool)) (f106 : Int → Option (Bool)) (lp0 : (Int × Int × Int × Int × Int) → Option ((Int × Int × Int × Int × Int) ⊕ (Int))) (a0 : Int) (a1 : Int) (a2 : Int) : Option (Int) :=
Option.bind (f106 a0) fun y1 =>
let v2 : Bool := !y1
bif v2 == false then
Option.bind (f106 a1) fun y3 =>
let v4 : Bool := !y3
bif v4 == false then
let v5 : Bool := decide (a2 < (0 : Int))
bif v5 then
some (0 : Int)
else
Option.bind (f52 a0 a1 a2) fun y6 =>
let v7 : Bool := !y6.2.2
bif v7 then
some (0 : Int)
else
Option.bind (lp0 (a0, a1, y6.2.1, (0 : Int), y6.1)) fun s8 => onSum s8 (fun y9 =>
some y9.2.2.2.1) (fun o20 => some o20)
else
some (0 : Int)
else
some (0 : Int)
-- (*tatting/coded.reader).first
def F56_0 (f59 : ByteArray → (LI_ × (Int × Int)) → Option (Bool × (LI_ × (Int × Int)))) (f107 : Int → Option (ByteArray)) (self : (LI_ × Int × Int × (LI_ × (Int × Int))) → Option ((LI_ × Int × Int × (LI_ × (Int × Int))) ⊕ (Bool × (LI_ × (Int × Int))))) (z5 : LI_ × Int × Int × (LI_ × (Int × Int))) : Option ((LI_ × Int × Int × (LI_ × (Int × Int))) ⊕ (Bool × (LI_ × (Int × Int)))) :=
let v6 : Bool := decide (z5.2.2.1 < z5.2.1)
bif v6 then
if 0 ≤ z5.2.2.1 ∧ z5.2.2.1 < (z5.1.length : Int) then
let v7 : Int := z5.1.getD z5.2.2.1.toNat (0 : Int)
Option.bind (f107 v7) fun y8 =>
if (⟨#[116, 97, 116, 116, 105, 110, 103, 32, 49, 32]⟩ : ByteArray).size + y8.size ≤ 140737488355328 then
let v9 : ByteArray := (⟨#[116, 97, 116, 116, 105, 110, 103, 32, 49, 32]⟩ : ByteArray) ++ y8
if v9.size + (⟨#[10]⟩ : ByteArray).size ≤ 140737488355328 then
let v10 : ByteArray := v9 ++ (⟨#[10]⟩ : ByteArray)
Option.bind (f59 v10 z5.2.2.2) fun y11 =>
bif y11.1 then
let v12 : (LI_ × (Int × Int)) := (y11.2.1, (y11.2.2.1, v7))
some (.inr (true, v12))
else
let v13 : Int := IntKind.wrap .i64 (z5.2.2.1 + (1 : Int))
self (z5.1, z5.2.1, v13, y11.2)
else none
else none
else none
else
some (.inl (z5.1, z5.2.1, z5.2.2.1, z5.2.2.2))
def r56 (f59 : ByteArray → (LI_ × (Int × Int)) → Option (Bool × (LI_ × (Int × Int)))) (f107 : Int → Option (ByteArray)) (lp0 : (LI_ × Int × Int × (LI_ × (Int × Int))) → Option ((LI_ × Int × Int × (LI_ × (Int × Int))) ⊕ (Bool × (LI_ × (Int × Int))))) (a0 : (LI_ × (Int × Int))) : Option (Bool × (LI_ × (Int × Int))) :=
let v1 : LI_ := ([(0 : Int), (1 : Int)] : List Int)
let v2 : Int := (v1.length : Int)
Option.bind (lp0 (v1, v2, (0 : Int), a0)) fun s3 => onSum s3 (fun y4 =>
some (false, y4.2.2.2)) (fun o14 => some o14)
-- (*tatting/coded.reader).line
def r57 (f59 : ByteArray → (LI_ × (Int × Int)) → Option (Bool × (LI_ × (Int × Int)))) (f108 : (LI_ × (Int × Int)) → Option (Int × Bool × (LI_ × (Int × Int)))) (a0 : (LI_ × (Int × Int))) : Option (Int × Int × Int × Bool × (LI_ × (Int × Int))) :=
Option.bind (f59 (⟨#[64]⟩ : ByteArray) a0) fun y1 =>
let v2 : Bool := !y1.1
bif v2 then
some ((0 : Int), (0 : Int), (0 : Int), false, y1.2)
else
Option.bind (f108 y1.2) fun y3 =>
bif y3.2.1 == true then
Option.bind (f59 (⟨#[32]⟩ : ByteArray) y3.2.2) fun y4 =>
Option.bind (f108 y4.2) fun y5 =>
bif y4.1 == true then
bif y5.2.1 == true then
Option.bind (f59 (⟨#[32]⟩ : ByteArray) y5.2.2) fun y6 =>
Option.bind (f108 y6.2) fun y7 =>
bif y6.1 == true then
bif y7.2.1 == true then
Option.bind (f59 (⟨#[10]⟩ : ByteArray) y7.2.2) fun y8 =>
some (y3.1, y5.1, y7.1, y8.1, y8.2)
else
some (y3.1, y5.1, y7.1, false, y7.2.2)
else
some (y3.1, y5.1, y7.1, false, y7.2.2)
else
Option.bind (f108 y5.2.2) fun y9 =>
some (y3.1, y5.1, y9.1, false, y9.2.2)
else
Option.bind (f108 y5.2.2) fun y10 =>
some (y3.1, y5.1, y10.1, false, y10.2.2)
else
Option.bind (f108 y3.2.2) fun y11 =>
Option.bind (f108 y11.2.2) fun y12 =>
some (y3.1, y11.1, y12.1, false, y12.2.2)
-- (*tatting/coded.reader).tokens
def F58_0 (f109 : (LI_ × (Int × Int)) → Option (LI_ × Bool × (LI_ × (Int × Int)))) (self : (Int × Int × (LI_ × (Int × Int)) × LL_) → Option ((Int × Int × (LI_ × (Int × Int)) × LL_) ⊕ (LL_ × Int × Bool × (LI_ × (Int × Int))))) (z3 : Int × Int × (LI_ × (Int × Int)) × LL_) : Option ((Int × Int × (LI_ × (Int × Int)) × LL_) ⊕ (LL_ × Int × Bool × (LI_ × (Int × Int)))) :=
let v4 : Bool := decide (z3.2.1 < z3.1)
bif v4 then
Option.bind (f109 z3.2.2.1) fun y5 =>
let v6 : Bool := !y5.2.1
bif v6 then
some (.inr (([] : List LI_), z3.2.2.1.2.1, false, y5.2.2))
else
let v7 : LL_ := ([y5.1] : List LI_)
if (z3.2.2.2.length + v7.length) * 24 ≤ 140737488355328 ∧ z3.2.2.2.length + v7.length ≤ 140737488355328 then
let v8 : LL_ := z3.2.2.2 ++ v7
let v9 : Int := IntKind.wrap .i64 (z3.2.1 + (1 : Int))
self (z3.1, v9, y5.2.2, v8)
else none
else
some (.inl (z3.1, z3.2.1, z3.2.2.1, z3.2.2.2))
def r58 (f109 : (LI_ × (Int × Int)) → Option (LI_ × Bool × (LI_ × (Int × Int)))) (lp0 : (Int × Int × (LI_ × (Int × Int)) × LL_) → Option ((Int × Int × (LI_ × (Int × Int)) × LL_) ⊕ (LL_ × Int × Bool × (LI_ × (Int × Int))))) (a0 : Int) (a1 : (LI_ × (Int × Int))) : Option (LL_ × Int × Bool × (LI_ × (Int × Int))) :=
Option.bind (lp0 (a0, (0 : Int), a1, ([] : List LI_))) fun s1 => onSum s1 (fun y2 =>
some (y2.2.2.2, (0 : Int), true, y2.2.2.1)) (fun o10 => some o10)
-- (*tatting/coded.reader).text
def r59 (f110 : LI_ → LI_ → Option (Bool)) (a0 : ByteArray) (a1 : (LI_ × (Int × Int))) : Option (Bool × (LI_ × (Int × Int))) :=
if 0 ≤ a1.2.1 ∧ a1.2.1 ≤ (a1.1.length : Int) ∧ (a1.1.length : Int) ≤ (a1.1.length : Int) then
let v1 : LI_ := cut a1.1 a1.2.1 (a1.1.length : Int)
if a0.size ≤ 140737488355328 then
let v2 : LI_ := strBytes a0
Option.bind (f110 v1 v2) fun y3 =>
let v4 : Bool := !y3
bif v4 then
some (false, a1)
else
let v5 : Int := (a0.size : Int)
let v6 : Int := IntKind.wrap .i64 (a1.2.1 + v5)
let v7 : (LI_ × (Int × Int)) := (a1.1, (v6, a1.2.2))
some (true, v7)
else none
else none
-- tatting/patch.Apply
def F60_0 (f62 : HK_ → Option (Bool)) (f63 : LL_ → LL_ → Option (LL_)) (f111 : LL_ → LL_ → Int → Option (Bool)) (self : (LL_ × Int × HK_ × Int × Int × LL_) → Option ((LL_ × Int × HK_ × Int × Int × LL_) ⊕ (LL_ × Int))) (z6 : LL_ × Int × HK_ × Int × Int × LL_) : Option ((LL_ × Int × HK_ × Int × Int × LL_) ⊕ (LL_ × Int)) :=
let v7 : Bool := decide (z6.2.2.2.2.1 < z6.2.2.2.1)
bif v7 then
if 0 ≤ z6.2.2.2.2.1 ∧ z6.2.2.2.2.1 < (z6.2.2.1.length : Int) then
let v8 : (Int × (LL_ × LL_)) := z6.2.2.1.getD z6.2.2.2.2.1.toNat ((0 : Int), (([] : List LI_), ([] : List LI_)))
Option.bind (f111 z6.1 v8.2.1 v8.1) fun y9 =>
let v10 : Bool := !y9
bif v10 then
some (.inr (([] : List LI_), (5 : Int)))
else
if 0 ≤ z6.2.1 ∧ z6.2.1 ≤ v8.1 ∧ v8.1 ≤ (z6.1.length : Int) then
let v11 : LL_ := cut z6.1 z6.2.1 v8.1
Option.bind (f63 v11 z6.2.2.2.2.2) fun y12 =>
Option.bind (f63 v8.2.2 y12) fun y13 =>
let v14 : Int := (v8.2.1.length : Int)
let v15 : Int := IntKind.wrap .i64 (v8.1 + v14)
let v16 : Int := IntKind.wrap .i64 (z6.2.2.2.2.1 + (1 : Int))
self (z6.1, v15, z6.2.2.1, z6.2.2.2.1, v16, y13)
else none
else none
else
some (.inl (z6.1, z6.2.1, z6.2.2.1, z6.2.2.2.1, z6.2.2.2.2.1, z6.2.2.2.2.2))
def r60 (f62 : HK_ → Option (Bool)) (f63 : LL_ → LL_ → Option (LL_)) (f111 : LL_ → LL_ → Int → Option (Bool)) (lp0 : (LL_ × Int × HK_ × Int × Int × LL_) → Option ((LL_ × Int × HK_ × Int × Int × LL_) ⊕ (LL_ × Int))) (a0 : HK_) (a1 : LL_) : Option (LL_ × Int) :=
Option.bind (f62 a0) fun y1 =>
let v2 : Bool := !y1
bif v2 then
some (([] : List LI_), (1 : Int))
else
let v3 : Int := (a0.length : Int)
Option.bind (lp0 (a1, (0 : Int), a0, v3, (0 : Int), ([] : List LI_))) fun s4 => onSum s4 (fun y5 =>
if 0 ≤ y5.2.1 ∧ y5.2.1 ≤ (y5.1.length : Int) ∧ (y5.1.length : Int) ≤ (y5.1.length : Int) then
let v18 : LL_ := cut y5.1 y5.2.1 (y5.1.length : Int)
Option.bind (f63 v18 y5.2.2.2.2.2) fun y19 =>
some (y19, (0 : Int))
else none) (fun o17 => some o17)
-- tatting/tok.Join
def F61_0 (self : (LL_ × Int × Int × LI_) → Option ((LL_ × Int × Int × LI_) ⊕ (LI_))) (z4 : LL_ × Int × Int × LI_) : Option ((LL_ × Int × Int × LI_) ⊕ (LI_)) :=
let v5 : Bool := decide (z4.2.2.1 < z4.2.1)
bif v5 then
if 0 ≤ z4.2.2.1 ∧ z4.2.2.1 < (z4.1.length : Int) then
let v6 : LI_ := z4.1.getD z4.2.2.1.toNat ([] : List Int)
if (z4.2.2.2.length + v6.length) * 1 ≤ 140737488355328 ∧ z4.2.2.2.length + v6.length ≤ 140737488355328 then
let v7 : LI_ := z4.2.2.2 ++ v6
let v8 : Int := IntKind.wrap .i64 (z4.2.2.1 + (1 : Int))
self (z4.1, z4.2.1, v8, v7)
else none
else none
else
some (.inl (z4.1, z4.2.1, z4.2.2.1, z4.2.2.2))
def r61 (lp0 : (LL_ × Int × Int × LI_) → Option ((LL_ × Int × Int × LI_) ⊕ (LI_))) (a0 : LL_) : Option (LI_) :=
let v1 : Int := (a0.length : Int)
Option.bind (lp0 (a0, v1, (0 : Int), ([] : List Int))) fun s2 => onSum s2 (fun y3 =>
some y3.2.2.2) (fun o9 => some o9)
-- tatting/edit.Good
def F62_0 (f112 : LL_ → Option (Bool)) (self : (Int × HK_ × Int × Int) → Option ((Int × HK_ × Int × Int) ⊕ (Bool))) (z4 : Int × HK_ × Int × Int) : Option ((Int × HK_ × Int × Int) ⊕ (Bool)) :=
let v5 : Bool := decide (z4.2.2.2 < z4.2.2.1)
bif v5 then
if 0 ≤ z4.2.2.2 ∧ z4.2.2.2 < (z4.2.1.length : Int) then
let v6 : (Int × (LL_ × LL_)) := z4.2.1.getD z4.2.2.2.toNat ((0 : Int), (([] : List LI_), ([] : List LI_)))
let v7 : Bool := decide (v6.1 ≤ z4.1)
bif v7 == false then
let v8 : Bool := decide (v6.1 > (1048576 : Int))
bif v8 == false then
let v9 : Int := (v6.2.1.length : Int)
let v10 : Int := (v6.2.2.length : Int)
let v11 : Int := IntKind.wrap .i64 (v9 + v10)
let v12 : Bool := decide (v11 = (0 : Int))
bif v12 == false then
Option.bind (f112 v6.2.1) fun y13 =>
let v14 : Bool := !y13
bif v14 == false then
Option.bind (f112 v6.2.2) fun y15 =>
let v16 : Bool := !y15
bif v16 then
some (.inr false)
else
let v17 : Int := (v6.2.1.length : Int)
let v18 : Int := IntKind.wrap .i64 (v6.1 + v17)
let v19 : Int := IntKind.wrap .i64 (z4.2.2.2 + (1 : Int))
self (v18, z4.2.1, z4.2.2.1, v19)
else
some (.inr false)
else
some (.inr false)
else
some (.inr false)
else
some (.inr false)
else none
else
some (.inl (z4.1, z4.2.1, z4.2.2.1, z4.2.2.2))
def r62 (f112 : LL_ → Option (Bool)) (lp0 : (Int × HK_ × Int × Int) → Option ((Int × HK_ × Int × Int) ⊕ (Bool))) (a0 : HK_) : Option (Bool) :=
let v1 : Int := (a0.length : Int)
Option.bind (lp0 ((-1 : Int), a0, v1, (0 : Int))) fun s2 => onSum s2 (fun y3 =>
some true) (fun o20 => some o20)
-- tatting/patch.more
def F63_0 (f102 : LI_ → Option (LI_)) (self : (LL_ × Int × Int × LL_) → Option ((LL_ × Int × Int × LL_) ⊕ (LL_))) (z4 : LL_ × Int × Int × LL_) : Option ((LL_ × Int × Int × LL_) ⊕ (LL_)) :=
let v5 : Bool := decide (z4.2.2.1 < z4.2.1)
bif v5 then
if 0 ≤ z4.2.2.1 ∧ z4.2.2.1 < (z4.1.length : Int) then
let v6 : LI_ := z4.1.getD z4.2.2.1.toNat ([] : List Int)
Option.bind (f102 v6) fun y7 =>
let v8 : LL_ := ([y7] : List LI_)
if (z4.2.2.2.length + v8.length) * 24 ≤ 140737488355328 ∧ z4.2.2.2.length + v8.length ≤ 140737488355328 then
let v9 : LL_ := z4.2.2.2 ++ v8
let v10 : Int := IntKind.wrap .i64 (z4.2.2.1 + (1 : Int))
self (z4.1, z4.2.1, v10, v9)
else none
else none
else
some (.inl (z4.1, z4.2.1, z4.2.2.1, z4.2.2.2))
def r63 (f102 : LI_ → Option (LI_)) (lp0 : (LL_ × Int × Int × LL_) → Option ((LL_ × Int × Int × LL_) ⊕ (LL_))) (a0 : LL_) (a1 : LL_) : Option (LL_) :=
let v1 : Int := (a0.length : Int)
Option.bind (lp0 (a0, v1, (0 : Int), a1)) fun s2 => onSum s2 (fun y3 =>
some y3.2.2.2) (fun o11 => some o11)
-- bytes.Count
def F70_0 (f115 : LI_ → Option (Int)) (f116 : LI_ → Int → Option (Int)) (f117 : LI_ → LI_ → Option (Int)) (self : (LI_ × LI_ × Int) → Option ((LI_ × LI_ × Int) ⊕ (Int))) (z11 : LI_ × LI_ × Int) : Option ((LI_ × LI_ × Int) ⊕ (Int)) :=
Option.bind (f117 z11.1 z11.2.1) fun y12 =>
let v13 : Bool := decide (y12 = (-1 : Int))
bif v13 then
some (.inr z11.2.2)
else
let v14 : Int := IntKind.wrap .i64 (z11.2.2 + (1 : Int))
let v15 : Int := (z11.2.1.length : Int)
let v16 : Int := IntKind.wrap .i64 (y12 + v15)
if 0 ≤ v16 ∧ v16 ≤ (z11.1.length : Int) ∧ (z11.1.length : Int) ≤ (z11.1.length : Int) then
let v17 : LI_ := cut z11.1 v16 (z11.1.length : Int)
self (v17, z11.2.1, v14)
else none
def r70 (f115 : LI_ → Option (Int)) (f116 : LI_ → Int → Option (Int)) (f117 : LI_ → LI_ → Option (Int)) (lp0 : (LI_ × LI_ × Int) → Option ((LI_ × LI_ × Int) ⊕ (Int))) (a0 : LI_) (a1 : LI_) : Option (Int) :=
let v1 : Int := (a1.length : Int)
let v2 : Bool := decide (v1 = (0 : Int))
bif v2 then
Option.bind (f115 a0) fun y3 =>
let v4 : Int := IntKind.wrap .i64 (y3 + (1 : Int))
some v4
else
let v5 : Int := (a1.length : Int)
let v6 : Bool := decide (v5 = (1 : Int))
bif v6 then
if 0 ≤ (0 : Int) ∧ (0 : Int) < (a1.length : Int) then
let v7 : Int := a1.getD (0 : Int).toNat (0 : Int)
Option.bind (f116 a0 v7) fun y8 =>
some y8
else none
else
Option.bind (lp0 (a0, a1, (0 : Int))) fun s9 => onSum s9 (fun y10 =>
none) (fun o18 => some o18)
-- tatting/cost.Work
def r71 (f118 : Int → (Int × (Int × (Int × Int))) → Option (Bool)) (f119 : Int → Int → Option (Int)) (f120 : Int → Option (Int)) (a0 : Int) (a1 : (Int × (Int × (Int × Int)))) : Option (Int × Int) :=
Option.bind (f118 a0 a1) fun y1 =>
let v2 : Bool := !y1
bif v2 then
some ((0 : Int), (1 : Int))
else
Option.bind (f119 a1.2.1 (64 : Int)) fun y3 =>
let v4 : Int := IntKind.wrap .i64 (a1.1 - a1.2.1)
let v5 : Int := IntKind.wrap .i64 (a1.2.1 - a1.1)
let v6 : Int := if v5 > v4 then v5 else v4
let v7 : Bool := decide (a0 = (1 : Int))
bif v7 then
let v8 : Int := IntKind.wrap .i64 (a1.1 * a1.2.1)
some (v8, (0 : Int))
else
let v9 : Bool := decide (a0 = (2 : Int))
bif v9 then
let v10 : Int := IntKind.wrap .i64 ((2 : Int) * a1.1)
Option.bind (f120 a1.1) fun y11 =>
let v12 : Int := IntKind.wrap .i64 (v10 + y11)
let v13 : Int := IntKind.wrap .i64 (v12 * a1.2.1)
some (v13, (0 : Int))
else
let v14 : Bool := decide (a0 = (3 : Int))
bif v14 then
Option.bind (f119 a1.1 (2 : Int)) fun y15 =>
let v16 : Int := IntKind.wrap .i64 ((3 : Int) * y15)
Option.bind (f119 a1.2.1 (2 : Int)) fun y17 =>
let v18 : Int := IntKind.wrap .i64 (v16 * y17)
let v19 : Int := IntKind.wrap .i64 ((256 : Int) + v18)
some (v19, (0 : Int))
else
let v20 : Bool := decide (a0 = (4 : Int))
bif v20 then
let v21 : Int := IntKind.wrap .i64 (a1.1 + a1.2.1)
let v22 : Int := IntKind.wrap .i64 (v21 + a1.2.2.2)
Option.bind (f120 a1.2.1) fun y23 =>
let v24 : Int := IntKind.wrap .i64 ((1 : Int) + y23)
let v25 : Int := IntKind.wrap .i64 (v22 * v24)
some (v25, (0 : Int))
else
let v26 : Bool := decide (a0 = (5 : Int))
bif v26 then
let v27 : Int := IntKind.wrap .i64 (a1.1 + a1.2.1)
let v28 : Int := IntKind.wrap .i64 (v27 + (1 : Int))
let v29 : Int := IntKind.wrap .i64 (v6 + (1 : Int))
let v30 : Int := IntKind.wrap .i64 (v28 * v29)
some (v30, (0 : Int))
else
let v31 : Bool := decide (a0 = (6 : Int))
bif v31 then
let v32 : Int := IntKind.wrap .i64 (a1.1 + a1.2.1)
let v33 : Int := IntKind.wrap .i64 (v32 + (1 : Int))
let v34 : Int := IntKind.wrap .i64 ((2 : Int) * v6)
let v35 : Int := IntKind.wrap .i64 (v34 + (1 : Int))
let v36 : Int := IntKind.wrap .i64 (v33 * v35)
some (v36, (0 : Int))
else
let v37 : Bool := decide (a0 = (7 : Int))
bif v37 then
let v38 : Int := IntKind.wrap .i64 ((2 : Int) * a1.1)
let v39 : Int := IntKind.wrap .i64 (v38 * y3)
some (v39, (0 : Int))
else
let v40 : Bool := decide (a0 = (8 : Int))
bif v40 then
let v41 : Int := IntKind.wrap .i64 ((3 : Int) * a1.1)
let v42 : Int := IntKind.wrap .i64 (v41 * y3)
some (v42, (0 : Int))
else
some ((0 : Int), (0 : Int))
-- tatting/cost.Room
def r72 (f118 : Int → (Int × (Int × (Int × Int))) → Option (Bool)) (f119 : Int → Int → Option (Int)) (a0 : Int) (a1 : (Int × (Int × (Int × Int)))) : Option (Int × Int) :=
Option.bind (f118 a0 a1) fun y1 =>
let v2 : Bool := !y1
bif v2 then
some ((0 : Int), (1 : Int))
else
Option.bind (f119 a1.2.1 (64 : Int)) fun y3 =>
let v4 : Bool := decide (a0 = (1 : Int))
bif v4 then
let v5 : Int := IntKind.wrap .i64 (a1.1 + (1 : Int))
let v6 : Int := IntKind.wrap .i64 (a1.2.1 + (1 : Int))
let v7 : Int := IntKind.wrap .i64 (v5 * v6)
some (v7, (0 : Int))
else
let v8 : Bool := decide (a0 = (2 : Int))
bif v8 then
let v9 : Int := IntKind.wrap .i64 (a1.2.1 + (1 : Int))
let v10 : Int := IntKind.wrap .i64 ((2 : Int) * v9)
some (v10, (0 : Int))
else
let v11 : Bool := decide (a0 = (3 : Int))
bif v11 then
Option.bind (f119 a1.1 (2 : Int)) fun y12 =>
let v13 : Int := IntKind.wrap .i64 (a1.2.1 + (1 : Int))
let v14 : Int := IntKind.wrap .i64 (y12 * v13)
let v15 : Int := IntKind.wrap .i64 ((256 : Int) + v14)
Option.bind (f119 a1.2.1 (2 : Int)) fun y16 =>
let v17 : Int := IntKind.wrap .i64 (a1.1 + (1 : Int))
let v18 : Int := IntKind.wrap .i64 (y16 * v17)
let v19 : Int := IntKind.wrap .i64 (v15 + v18)
some (v19, (0 : Int))
else
let v20 : Bool := decide (a0 = (4 : Int))
bif v20 then
let v21 : Int := IntKind.wrap .i64 ((3 : Int) * a1.2.2.2)
let v22 : Int := IntKind.wrap .i64 (a1.2.1 + v21)
some (v22, (0 : Int))
else
let v23 : Bool := decide (a0 = (5 : Int))
bif v23 then
let v24 : Int := IntKind.wrap .i64 (a1.1 + a1.2.1)
let v25 : Int := IntKind.wrap .i64 (v24 + (3 : Int))
let v26 : Int := IntKind.wrap .i64 ((4 : Int) * v25)
some (v26, (0 : Int))
else
let v27 : Bool := decide (a0 = (6 : Int))
bif v27 then
let v28 : Int := IntKind.wrap .i64 (a1.1 + a1.2.1)
let v29 : Int := IntKind.wrap .i64 (v28 + (1 : Int))
let v30 : Int := IntKind.wrap .i64 ((2 : Int) * v29)
some (v30, (0 : Int))
else
let v31 : Bool := decide (a0 = (7 : Int))
bif v31 then
let v32 : Int := IntKind.wrap .i64 (a1.2.2.1 + a1.1)
let v33 : Int := IntKind.wrap .i64 (v32 + (1 : Int))
let v34 : Int := IntKind.wrap .i64 (v33 * y3)
some (v34, (0 : Int))
else
let v35 : Bool := decide (a0 = (8 : Int))
bif v35 then
let v36 : Int := IntKind.wrap .i64 ((2 : Int) * a1.2.2.1)
let v37 : Int := IntKind.wrap .i64 (v36 + a1.1)
let v38 : Int := IntKind.wrap .i64 (v37 + (1 : Int))
let v39 : Int := IntKind.wrap .i64 (v38 * y3)
some (v39, (0 : Int))
else
some ((0 : Int), (0 : Int))
-- tatting/pairs.is
def r97 (a0 : LI_) (a1 : Int) : Option (Bool) :=
let v1 : Bool := decide (a1 ≥ (0 : Int))
bif v1 == true then
let v2 : Int := (a0.length : Int)
let v3 : Bool := decide (a1 < v2)
some v3
else
some false
-- tatting/least.next
def F98_0 (self : (LL_ × LI_ × LI_ × Int × Int × Int × Int × (Int × Int)) → Option ((LL_ × LI_ × LI_ × Int × Int × Int × Int × (Int × Int)) ⊕ ((Int × Int) × Bool))) (z12 : LL_ × LI_ × LI_ × Int × Int × Int × Int × (Int × Int)) : Option ((LL_ × LI_ × LI_ × Int × Int × Int × Int × (Int × Int)) ⊕ ((Int × Int) × Bool)) :=
let v13 : Int := (z12.2.2.1.length : Int)
let v14 : Bool := decide (z12.2.2.2.2.2.2.1 < v13)
bif v14 then
if 0 ≤ z12.2.2.2.2.2.1 ∧ z12.2.2.2.2.2.1 < (z12.2.1.length : Int) then
let v15 : Int := z12.2.1.getD z12.2.2.2.2.2.1.toNat (0 : Int)
if 0 ≤ z12.2.2.2.2.2.2.1 ∧ z12.2.2.2.2.2.2.1 < (z12.2.2.1.length : Int) then
let v16 : Int := z12.2.2.1.getD z12.2.2.2.2.2.2.1.toNat (0 : Int)
let v17 : Bool := decide (v15 = v16)
bif v17 == true then
let v18 : Int := IntKind.wrap .i64 (z12.2.2.2.2.2.1 + (1 : Int))
if 0 ≤ v18 ∧ v18 < (z12.1.length : Int) then
let v19 : LI_ := z12.1.getD v18.toNat ([] : List Int)
let v20 : Int := IntKind.wrap .i64 (z12.2.2.2.2.2.2.1 + (1 : Int))
if 0 ≤ v20 ∧ v20 < (v19.length : Int) then
let v21 : Int := v19.getD v20.toNat (0 : Int)
let v22 : Int := IntKind.wrap .i64 (v21 + (1 : Int))
let v23 : Bool := decide (v22 = z12.2.2.2.2.1)
bif v23 then
let v24 : (Int × Int) := (z12.2.2.2.2.2.1, z12.2.2.2.2.2.2.1)
some (.inr (v24, true))
else
let v25 : Int := IntKind.wrap .i64 (z12.2.2.2.2.2.2.1 + (1 : Int))
self (z12.1, z12.2.1, z12.2.2.1, z12.2.2.2.1, z12.2.2.2.2.1, z12.2.2.2.2.2.1, v25, z12.2.2.2.2.2.2.2)
else none
else none
else
let v26 : Int := IntKind.wrap .i64 (z12.2.2.2.2.2.2.1 + (1 : Int))
self (z12.1, z12.2.1, z12.2.2.1, z12.2.2.2.1, z12.2.2.2.2.1, z12.2.2.2.2.2.1, v26, z12.2.2.2.2.2.2.2)
else none
else none
else
some (.inl (z12.1, z12.2.1, z12.2.2.1, z12.2.2.2.1, z12.2.2.2.2.1, z12.2.2.2.2.2.1, z12.2.2.2.2.2.2.1, z12.2.2.2.2.2.2.2))
def F98_1 (lp0 : (LL_ × LI_ × LI_ × Int × Int × Int × Int × (Int × Int)) → Option ((LL_ × LI_ × LI_ × Int × Int × Int × Int × (Int × Int)) ⊕ ((Int × Int) × Bool))) (self : (LL_ × LI_ × LI_ × Int × Int × Int × (Int × Int)) → Option ((LL_ × LI_ × LI_ × Int × Int × Int × (Int × Int)) ⊕ ((Int × Int) × Bool))) (z7 : LL_ × LI_ × LI_ × Int × Int × Int × (Int × Int)) : Option ((LL_ × LI_ × LI_ × Int × Int × Int × (Int × Int)) ⊕ ((Int × Int) × Bool)) :=
let v8 : Int := (z7.2.1.length : Int)
let v9 : Bool := decide (z7.2.2.2.2.2.1 < v8)
bif v9 then
Option.bind (lp0 (z7.1, z7.2.1, z7.2.2.1, z7.2.2.2.1, z7.2.2.2.2.1, z7.2.2.2.2.2.1, z7.2.2.2.1, z7.2.2.2.2.2.2)) fun s10 => onSum s10 (fun y11 =>
let v28 : Int := IntKind.wrap .i64 (y11.2.2.2.2.2.1 + (1 : Int))
self (y11.1, y11.2.1, y11.2.2.1, y11.2.2.2.1, y11.2.2.2.2.1, v28, y11.2.2.2.2.2.2.2)) (fun o27 => some (.inr o27))
else
some (.inl (z7.1, z7.2.1, z7.2.2.1, z7.2.2.2.1, z7.2.2.2.2.1, z7.2.2.2.2.2.1, z7.2.2.2.2.2.2))
def r98 (lp0 : (LL_ × LI_ × LI_ × Int × Int × Int × Int × (Int × Int)) → Option ((LL_ × LI_ × LI_ × Int × Int × Int × Int × (Int × Int)) ⊕ ((Int × Int) × Bool))) (lp1 : (LL_ × LI_ × LI_ × Int × Int × Int × (Int × Int)) → Option ((LL_ × LI_ × LI_ × Int × Int × Int × (Int × Int)) ⊕ ((Int × Int) × Bool))) (a0 : LL_) (a1 : LI_) (a2 : LI_) (a3 : Int) (a4 : Int) : Option ((Int × Int) × Bool) :=
if 0 ≤ a3 ∧ a3 < (a0.length : Int) then
let v1 : LI_ := a0.getD a3.toNat ([] : List Int)
if 0 ≤ a4 ∧ a4 < (v1.length : Int) then
let v2 : Int := v1.getD a4.toNat (0 : Int)
let v3 : Bool := decide (v2 = (0 : Int))
bif v3 then
let v4 : (Int × Int) := ((0 : Int), (0 : Int))
some (v4, false)
else
Option.bind (lp1 (a0, a1, a2, a4, v2, a3, ((0 : Int), (0 : Int)))) fun s5 => onSum s5 (fun y6 =>
let v30 : (Int × Int) := ((0 : Int), (0 : Int))
some (v30, false)) (fun o29 => some o29)
else none
else none
-- tatting/names.Sort
def F99_0 (f102 : LI_ → Option (LI_)) (f141 : LL_ → Option (LL_)) (f142 : LL_ → Option (LL_)) (f144 : LL_ → Option (LL_)) (self : (Int × Int × LL_ × LL_) → Option ((Int × Int × LL_ × LL_) ⊕ (LL_))) (z9 : Int × Int × LL_ × LL_) : Option ((Int × Int × LL_ × LL_) ⊕ (LL_)) :=
let v10 : Bool := decide (z9.2.1 < z9.1)
bif v10 then
if 0 ≤ z9.2.1 ∧ z9.2.1 < (z9.2.2.2.length : Int) then
let v11 : LI_ := (z9.2.2.2.getD z9.2.1.toNat ([] : List Int))
Option.bind (f102 v11) fun y12 =>
if 0 ≤ z9.2.1 ∧ z9.2.1 < (z9.2.2.1.length : Int) then
let v13 : LL_ := z9.2.2.1.set z9.2.1.toNat y12
let v14 : Int := IntKind.wrap .i64 (z9.2.1 + (1 : Int))
self (z9.1, v14, v13, z9.2.2.2)
else none
else none
else
some (.inl (z9.1, z9.2.1, z9.2.2.1, z9.2.2.2))
def r99 (f102 : LI_ → Option (LI_)) (f141 : LL_ → Option (LL_)) (f142 : LL_ → Option (LL_)) (f144 : LL_ → Option (LL_)) (lp0 : (Int × Int × LL_ × LL_) → Option ((Int × Int × LL_ × LL_) ⊕ (LL_))) (a0 : LL_) : Option (LL_) :=
Option.bind (f141 a0) fun y1 =>
Option.bind (f142 y1) fun y2 =>
Option.bind (f144 y2) fun y3 =>
let v4 : Int := (y3.length : Int)
if 0 ≤ v4 ∧ v4 ≤ v4 ∧ v4 * (24 : Int) ≤ 140737488355328 ∧ v4 ≤ 140737488355328 then
let v5 : LL_ := List.replicate v4.toNat ([] : List Int)
let v6 : Int := (y3.length : Int)
Option.bind (lp0 (v6, (0 : Int), v5, y3)) fun s7 => onSum s7 (fun y8 =>
some y8.2.2.1) (fun o15 => some o15)
else none
-- slices.Concat[[][]byte,[]byte]
def F100_0 (f146 : Int → LL_ → Option (LL_)) (self : ((List LL_) × Int × (List LL_) × Int × Int) → Option (((List LL_) × Int × (List LL_) × Int × Int) ⊕ (LL_))) (z4 : (List LL_) × Int × (List LL_) × Int × Int) : Option (((List LL_) × Int × (List LL_) × Int × Int) ⊕ (LL_)) :=
let v5 : Bool := decide (z4.2.2.2.2 < z4.2.2.2.1)
bif v5 then
if 0 ≤ z4.2.2.2.2 ∧ z4.2.2.2.2 < (z4.2.2.1.length : Int) then
let v6 : LL_ := z4.2.2.1.getD z4.2.2.2.2.toNat ([] : List LI_)
let v7 : Int := (v6.length : Int)
let v8 : Int := IntKind.wrap .i64 (z4.2.1 + v7)
let v9 : Bool := decide (v8 < (0 : Int))
bif v9 then
none
else
let v10 : Int := IntKind.wrap .i64 (z4.2.2.2.2 + (1 : Int))
self (z4.1, v8, z4.2.2.1, z4.2.2.2.1, v10)
else none
else
some (.inl (z4.1, z4.2.1, z4.2.2.1, z4.2.2.2.1, z4.2.2.2.2))
def F100_1 (f146 : Int → LL_ → Option (LL_)) (self : ((List LL_) × Int × Int × LL_) → Option (((List LL_) × Int × Int × LL_) ⊕ (LL_))) (z16 : (List LL_) × Int × Int × LL_) : Option (((List LL_) × Int × Int × LL_) ⊕ (LL_)) :=
let v17 : Bool := decide (z16.2.2.1 < z16.2.1)
bif v17 then
if 0 ≤ z16.2.2.1 ∧ z16.2.2.1 < (z16.1.length : Int) then
let v18 : LL_ := z16.1.getD z16.2.2.1.toNat ([] : List LI_)
if (z16.2.2.2.length + v18.length) * 24 ≤ 140737488355328 ∧ z16.2.2.2.length + v18.length ≤ 140737488355328 then
let v19 : LL_ := z16.2.2.2 ++ v18
let v20 : Int := IntKind.wrap .i64 (z16.2.2.1 + (1 : Int))
self (z16.1, z16.2.1, v20, v19)
else none
else none
else
some (.inl (z16.1, z16.2.1, z16.2.2.1, z16.2.2.2))
def r100 (f146 : Int → LL_ → Option (LL_)) (lp0 : ((List LL_) × Int × (List LL_) × Int × Int) → Option (((List LL_) × Int × (List LL_) × Int × Int) ⊕ (LL_))) (lp1 : ((List LL_) × Int × Int × LL_) → Option (((List LL_) × Int × Int × LL_) ⊕ (LL_))) (a0 : (List LL_)) : Option (LL_) :=
let v1 : Int := (a0.length : Int)
Option.bind (lp0 (a0, (0 : Int), a0, v1, (0 : Int))) fun s2 => onSum s2 (fun y3 =>
Option.bind (f146 y3.2.1 ([] : List LI_)) fun y12 =>
let v13 : Int := (y3.1.length : Int)
Option.bind (lp1 (y3.1, v13, (0 : Int), y12)) fun s14 => onSum s14 (fun y15 =>
some y15.2.2.2) (fun o21 => some o21)) (fun o11 => some o11)
-- tatting/names.Ids
def F101_0 (f147 : LL_ → LI_ → Option (Int × Bool)) (self : (LL_ × LL_ × Int × Int × LI_) → Option ((LL_ × LL_ × Int × Int × LI_) ⊕ (LI_ × Bool))) (z6 : LL_ × LL_ × Int × Int × LI_) : Option ((LL_ × LL_ × Int × Int × LI_) ⊕ (LI_ × Bool)) :=
let v7 : Bool := decide (z6.2.2.2.1 < z6.2.2.1)
bif v7 then
if 0 ≤ z6.2.2.2.1 ∧ z6.2.2.2.1 < (z6.2.1.length : Int) then
let v8 : LI_ := z6.2.1.getD z6.2.2.2.1.toNat ([] : List Int)
Option.bind (f147 z6.1 v8) fun y9 =>
let v10 : Bool := !y9.2
bif v10 then
some (.inr (([] : List Int), false))
else
if 0 ≤ z6.2.2.2.1 ∧ z6.2.2.2.1 < (z6.2.2.2.2.length : Int) then
let v11 : LI_ := z6.2.2.2.2.set z6.2.2.2.1.toNat y9.1
let v12 : Int := IntKind.wrap .i64 (z6.2.2.2.1 + (1 : Int))
self (z6.1, z6.2.1, z6.2.2.1, v12, v11)
else none
else none
else
some (.inl (z6.1, z6.2.1, z6.2.2.1, z6.2.2.2.1, z6.2.2.2.2))
def r101 (f147 : LL_ → LI_ → Option (Int × Bool)) (lp0 : (LL_ × LL_ × Int × Int × LI_) → Option ((LL_ × LL_ × Int × Int × LI_) ⊕ (LI_ × Bool))) (a0 : LL_) (a1 : LL_) : Option (LI_ × Bool) :=
let v1 : Int := (a1.length : Int)
if 0 ≤ v1 ∧ v1 ≤ v1 ∧ v1 * (8 : Int) ≤ 140737488355328 ∧ v1 ≤ 140737488355328 then
let v2 : LI_ := List.replicate v1.toNat (0 : Int)
let v3 : Int := (a1.length : Int)
Option.bind (lp0 (a0, a1, v3, (0 : Int), v2)) fun s4 => onSum s4 (fun y5 =>
some (y5.2.2.2.2, true)) (fun o13 => some o13)
else none
-- tatting/tok.isMode
def r103 (a0 : Int) : Option (Bool) :=
let v1 : Bool := decide (a0 = (0 : Int))
bif v1 == false then
let v2 : Bool := decide (a0 = (1 : Int))
some v2
else
some true
-- bytes.IndexByte
def r104 (f148 : LI_ → Int → Option (Int)) (a0 : LI_) (a1 : Int) : Option (Int) :=
Option.bind (f148 a0 a1) fun y1 =>
some y1
-- tatting/band.is
def r106 (a0 : Int) : Option (Bool) :=
let v1 : Bool := decide (a0 ≥ (0 : Int))
bif v1 == true then
let v2 : Bool := decide (a0 ≤ (1048576 : Int))
some v2
else
some false
-- tatting/tok.Name
def r107 (a0 : Int) : Option (ByteArray) :=
let v1 : Bool := decide (a0 = (0 : Int))
bif v1 then
some (⟨#[98, 121, 116, 101, 115]⟩ : ByteArray)
else
let v2 : Bool := decide (a0 = (1 : Int))
bif v2 then
some (⟨#[108, 105, 110, 101, 115]⟩ : ByteArray)
else
some (⟨#[]⟩ : ByteArray)
-- (*tatting/coded.reader).number
def F108_0 (self : (Int × Int × (LI_ × (Int × Int))) → Option ((Int × Int × (LI_ × (Int × Int))) ⊕ (Int × Bool × (LI_ × (Int × Int))))) (z3 : Int × Int × (LI_ × (Int × Int))) : Option ((Int × Int × (LI_ × (Int × Int))) ⊕ (Int × Bool × (LI_ × (Int × Int)))) :=
let v4 : Int := (z3.2.2.1.length : Int)
let v5 : Bool := decide (z3.2.2.2.1 < v4)
bif v5 == true then
if 0 ≤ z3.2.2.2.1 ∧ z3.2.2.2.1 < (z3.2.2.1.length : Int) then
let v6 : Int := z3.2.2.1.getD z3.2.2.2.1.toNat (0 : Int)
let v7 : Bool := decide (v6 ≥ (48 : Int))
bif v7 == true then
if 0 ≤ z3.2.2.2.1 ∧ z3.2.2.2.1 < (z3.2.2.1.length : Int) then
let v8 : Int := z3.2.2.1.getD z3.2.2.2.1.toNat (0 : Int)
let v9 : Bool := decide (v8 ≤ (57 : Int))
bif v9 then
let v10 : Int := IntKind.wrap .i64 ((10 : Int) * z3.1)
if 0 ≤ z3.2.2.2.1 ∧ z3.2.2.2.1 < (z3.2.2.1.length : Int) then
let v11 : Int := z3.2.2.1.getD z3.2.2.2.1.toNat (0 : Int)
let v12 : Int := IntKind.wrap .u8 (v11 - (48 : Int))
let v13 : Int := IntKind.wrap .i64 v12
let v14 : Int := IntKind.wrap .i64 (v10 + v13)
let v15 : Int := IntKind.wrap .i64 (z3.2.2.2.1 + (1 : Int))
let v16 : (LI_ × (Int × Int)) := (z3.2.2.1, (v15, z3.2.2.2.2))
let v17 : Bool := decide (v14 > (1048576 : Int))
bif v17 == false then
let v18 : Int := IntKind.wrap .i64 (v16.2.1 - z3.2.1)
let v19 : Bool := decide (v18 > (1 : Int))
bif v19 == true then
if 0 ≤ z3.2.1 ∧ z3.2.1 < (v16.1.length : Int) then
let v20 : Int := v16.1.getD z3.2.1.toNat (0 : Int)
let v21 : Bool := decide (v20 = (48 : Int))
bif v21 then
some (.inr ((0 : Int), false, v16))
else
self (v14, z3.2.1, v16)
else none
else
self (v14, z3.2.1, v16)
else
some (.inr ((0 : Int), false, v16))
else none
else
some (.inl (z3.1, z3.2.1, z3.2.2))
else none
else
some (.inl (z3.1, z3.2.1, z3.2.2))
else none
else
some (.inl (z3.1, z3.2.1, z3.2.2))
def r108 (lp0 : (Int × Int × (LI_ × (Int × Int))) → Option ((Int × Int × (LI_ × (Int × Int))) ⊕ (Int × Bool × (LI_ × (Int × Int))))) (a0 : (LI_ × (Int × Int))) : Option (Int × Bool × (LI_ × (Int × Int))) :=
Option.bind (lp0 ((0 : Int), a0.2.1, a0)) fun s1 => onSum s1 (fun y2 =>
let v23 : Bool := decide (y2.2.2.2.1 > y2.2.1)
some (y2.1, v23, y2.2.2)) (fun o22 => some o22)
-- (*tatting/coded.reader).token
def r109 (f59 : ByteArray → (LI_ × (Int × Int)) → Option (Bool × (LI_ × (Int × Int)))) (f102 : LI_ → Option (LI_)) (f108 : (LI_ × (Int × Int)) → Option (Int × Bool × (LI_ × (Int × Int)))) (f149 : Int → LI_ → Option (Bool)) (a0 : (LI_ × (Int × Int))) : Option (LI_ × Bool × (LI_ × (Int × Int))) :=
Option.bind (f108 a0) fun y1 =>
let v2 : Bool := !y1.2.1
bif v2 == false then
Option.bind (f59 (⟨#[58]⟩ : ByteArray) y1.2.2) fun y3 =>
let v4 : Bool := !y3.1
bif v4 == false then
let v5 : Int := (y3.2.1.length : Int)
let v6 : Int := IntKind.wrap .i64 (v5 - y3.2.2.1)
let v7 : Bool := decide (y1.1 > v6)
bif v7 then
some (([] : List Int), false, y3.2)
else
let v8 : Int := IntKind.wrap .i64 (y3.2.2.1 + y1.1)
if 0 ≤ y3.2.2.1 ∧ y3.2.2.1 ≤ v8 ∧ v8 ≤ (y3.2.1.length : Int) then
let v9 : LI_ := cut y3.2.1 y3.2.2.1 v8
Option.bind (f102 v9) fun y10 =>
let v11 : Int := IntKind.wrap .i64 (y3.2.2.1 + y1.1)
let v12 : (LI_ × (Int × Int)) := (y3.2.1, (v11, y3.2.2.2))
Option.bind (f59 (⟨#[10]⟩ : ByteArray) v12) fun y13 =>
bif y13.1 == true then
Option.bind (f149 y13.2.2.2 y10) fun y14 =>
some (y10, y14, y13.2)
else
some (y10, false, y13.2)
else none
else
some (([] : List Int), false, y3.2)
else
some (([] : List Int), false, y1.2.2)
-- bytes.HasPrefix
def r110 (f145 : LI_ → LI_ → Option (Bool)) (a0 : LI_) (a1 : LI_) : Option (Bool) :=
let v1 : Int := (a0.length : Int)
let v2 : Int := (a1.length : Int)
let v3 : Bool := decide (v1 ≥ v2)
bif v3 == true then
let v4 : Int := (a1.length : Int)
if 0 ≤ (0 : Int) ∧ (0 : Int) ≤ v4 ∧ v4 ≤ (a0.length : Int) then
let v5 : LI_ := cut a0 (0 : Int) v4
Option.bind (f145 v5 a1) fun y6 =>
some y6
else none
else
some false
-- tatting/patch.stands
def r111 (f150 : LL_ → LL_ → Option (Bool)) (a0 : LL_) (a1 : LL_) (a2 : Int) : Option (Bool) :=
let v1 : Int := (a0.length : Int)
let v2 : Bool := decide (a2 ≤ v1)
bif v2 == true then
let v3 : Int := (a1.length : Int)
let v4 : Int := (a0.length : Int)
let v5 : Int := IntKind.wrap .i64 (v4 - a2)
let v6 : Bool := decide (v3 ≤ v5)
bif v6 == true then
let v7 : Int := (a1.length : Int)
let v8 : Int := IntKind.wrap .i64 (a2 + v7)
if 0 ≤ a2 ∧ a2 ≤ v8 ∧ v8 ≤ (a0.length : Int) then
let v9 : LL_ := cut a0 a2 v8
Option.bind (f150 v9 a1) fun y10 =>
some y10
else none
else
some false
else
some false
-- tatting/edit.all
def F112_0 (self : (LL_ × Int × Int) → Option ((LL_ × Int × Int) ⊕ (Bool))) (z4 : LL_ × Int × Int) : Option ((LL_ × Int × Int) ⊕ (Bool)) :=
let v5 : Bool := decide (z4.2.2 < z4.2.1)
bif v5 then
if 0 ≤ z4.2.2 ∧ z4.2.2 < (z4.1.length : Int) then
let v6 : LI_ := z4.1.getD z4.2.2.toNat ([] : List Int)
let v7 : Int := (v6.length : Int)
let v8 : Bool := decide (v7 = (0 : Int))
bif v8 then
some (.inr false)
else
let v9 : Int := IntKind.wrap .i64 (z4.2.2 + (1 : Int))
self (z4.1, z4.2.1, v9)
else none
else
some (.inl (z4.1, z4.2.1, z4.2.2))
def r112 (lp0 : (LL_ × Int × Int) → Option ((LL_ × Int × Int) ⊕ (Bool))) (a0 : LL_) : Option (Bool) :=
let v1 : Int := (a0.length : Int)
Option.bind (lp0 (a0, v1, (0 : Int))) fun s2 => onSum s2 (fun y3 =>
some true) (fun o10 => some o10)
-- unicode/utf8.RuneCount
def F115_0 (f151 : ByteArray → Option (Int)) (self : (LI_ × Int × Int) → Option ((LI_ × Int × Int) ⊕ (Int))) (z4 : LI_ × Int × Int) : Option ((LI_ × Int × Int) ⊕ (Int)) :=
let v5 : Bool := decide (z4.2.2 < z4.2.1)
bif v5 then
if 0 ≤ z4.2.2 ∧ z4.2.2 < (z4.1.length : Int) then
let v6 : Int := z4.1.getD z4.2.2.toNat (0 : Int)
let v7 : Bool := decide (v6 ≥ (128 : Int))
bif v7 then
if 0 ≤ z4.2.2 ∧ z4.2.2 ≤ (z4.1.length : Int) ∧ (z4.1.length : Int) ≤ (z4.1.length : Int) then
let v8 : LI_ := cut z4.1 z4.2.2 (z4.1.length : Int)
let v9 : ByteArray := bytesStr v8
Option.bind (f151 v9) fun y10 =>
let v11 : Int := IntKind.wrap .i64 (z4.2.2 + y10)
some (.inr v11)
else none
else
let v12 : Int := IntKind.wrap .i64 (z4.2.2 + (1 : Int))
self (z4.1, z4.2.1, v12)
else none
else
some (.inl (z4.1, z4.2.1, z4.2.2))
def r115 (f151 : ByteArray → Option (Int)) (lp0 : (LI_ × Int × Int) → Option ((LI_ × Int × Int) ⊕ (Int))) (a0 : LI_) : Option (Int) :=
let v1 : Int := (a0.length : Int)
Option.bind (lp0 (a0, v1, (0 : Int))) fun s2 => onSum s2 (fun y3 =>
some y3.2.2) (fun o13 => some o13)
-- bytes.Index
def r117 (f104 : LI_ → Int → Option (Int)) (f145 : LI_ → LI_ → Option (Bool)) (a0 : LI_) (a1 : LI_) : Option (Int) :=
let v1 : Int := (a1.length : Int)
let v2 : Bool := decide (v1 = (0 : Int))
bif v2 then
some (0 : Int)
else
let v3 : Bool := decide (v1 = (1 : Int))
bif v3 then
if 0 ≤ (0 : Int) ∧ (0 : Int) < (a1.length : Int) then
let v4 : Int := a1.getD (0 : Int).toNat (0 : Int)
Option.bind (f104 a0 v4) fun y5 =>
some y5
else none
else
let v6 : Int := (a0.length : Int)
let v7 : Bool := decide (v1 = v6)
bif v7 then
Option.bind (f145 a1 a0) fun y8 =>
bif y8 then
some (0 : Int)
else
some (-1 : Int)
else
let v9 : Int := (a0.length : Int)
let v10 : Bool := decide (v1 > v9)
bif v10 then
some (-1 : Int)
else
none
-- tatting/cost.ask
def r118 (f155 : (Int × (Int × (Int × Int))) → Option (Bool)) (a0 : Int) (a1 : (Int × (Int × (Int × Int)))) : Option (Bool) :=
let v1 : Bool := decide (a0 ≥ (1 : Int))
bif v1 == true then
let v2 : Bool := decide (a0 ≤ (8 : Int))
bif v2 == true then
Option.bind (f155 a1) fun y3 =>
some y3
else
some false
else
some false
-- tatting/cost.up
def r119 (a0 : Int) (a1 : Int) : Option (Int) :=
let v1 : Int := IntKind.wrap .i64 (a0 + a1)
let v2 : Int := IntKind.wrap .i64 (v1 - (1 : Int))
if a1 = 0 then none else
let v3 : Int := IntKind.wrap .i64 (v2.tdiv a1)
some v3
-- tatting/cost.digits
def r120 (f156 : Int → Option (Int)) (a0 : Int) : Option (Int) :=
let v1 : Int := IntKind.wrap .u64 a0
Option.bind (f156 v1) fun y2 =>
some y2
-- bytes.Compare
def r143 (f175 : LI_ → LI_ → Option (Int)) (a0 : LI_) (a1 : LI_) : Option (Int) :=
Option.bind (f175 a0 a1) fun y1 =>
some y1
-- bytes.Equal
def r145 (a0 : LI_) (a1 : LI_) : Option (Bool) :=
let v1 : ByteArray := bytesStr a0
let v2 : ByteArray := bytesStr a1
let v3 : Bool := strEq v1 v2
some v3
-- tatting/names.Find
def r147 (f176 : LL_ → LI_ → Option (Int × Bool)) (a0 : LL_) (a1 : LI_) : Option (Int × Bool) :=
Option.bind (f176 a0 a1) fun y1 =>
let v2 : Bool := !y1.2
bif v2 then
some ((0 : Int), false)
else
some (y1.1, true)
-- tatting/tok.Is
def r149 (f104 : LI_ → Int → Option (Int)) (a0 : Int) (a1 : LI_) : Option (Bool) :=
let v1 : Bool := decide (a0 = (0 : Int))
bif v1 then
let v2 : Int := (a1.length : Int)
let v3 : Bool := decide (v2 = (1 : Int))
some v3
else
let v4 : Bool := decide (a0 = (1 : Int))
bif v4 then
let v5 : Int := (a1.length : Int)
let v6 : Bool := decide (v5 > (0 : Int))
bif v6 == true then
let v7 : Int := (a1.length : Int)
let v8 : Int := IntKind.wrap .i64 (v7 - (1 : Int))
if 0 ≤ (0 : Int) ∧ (0 : Int) ≤ v8 ∧ v8 ≤ (a1.length : Int) then
let v9 : LI_ := cut a1 (0 : Int) v8
Option.bind (f104 v9 (10 : Int)) fun y10 =>
let v11 : Bool := decide (y10 < (0 : Int))
some v11
else none
else
some false
else
some false
-- slices.EqualFunc[[][]byte,[][]byte,[]byte,[]byte]
def F150_0 (f145 : LI_ → LI_ → Option (Bool)) (self : (LL_ × LL_ × Int × Int) → Option ((LL_ × LL_ × Int × Int) ⊕ (Bool))) (z7 : LL_ × LL_ × Int × Int) : Option ((LL_ × LL_ × Int × Int) ⊕ (Bool)) :=
let v8 : Bool := decide (z7.2.2.2 < z7.2.2.1)
bif v8 then
if 0 ≤ z7.2.2.2 ∧ z7.2.2.2 < (z7.2.1.length : Int) then
let v9 : LI_ := z7.2.1.getD z7.2.2.2.toNat ([] : List Int)
if 0 ≤ z7.2.2.2 ∧ z7.2.2.2 < (z7.1.length : Int) then
let v10 : LI_ := z7.1.getD z7.2.2.2.toNat ([] : List Int)
Option.bind (f145 v9 v10) fun y11 =>
let v12 : Bool := !y11
bif v12 then
some (.inr false)
else
let v13 : Int := IntKind.wrap .i64 (z7.2.2.2 + (1 : Int))
self (z7.1, z7.2.1, z7.2.2.1, v13)
else none
else none
else
some (.inl (z7.1, z7.2.1, z7.2.2.1, z7.2.2.2))
def r150 (f145 : LI_ → LI_ → Option (Bool)) (lp0 : (LL_ × LL_ × Int × Int) → Option ((LL_ × LL_ × Int × Int) ⊕ (Bool))) (a0 : LL_) (a1 : LL_) : Option (Bool) :=
let v1 : Int := (a0.length : Int)
let v2 : Int := (a1.length : Int)
let v3 : Bool := !decide (v1 = v2)
bif v3 then
some false
else
let v4 : Int := (a0.length : Int)
Option.bind (lp0 (a1, a0, v4, (0 : Int))) fun s5 => onSum s5 (fun y6 =>
some true) (fun o14 => some o14)
-- unicode/utf8.RuneCountInString
def r151 (a0 : ByteArray) : Option (Int) :=
none
-- internal/bytealg.Cutover
def r153 (a0 : Int) : Option (Int) :=
let v1 : Int := IntKind.wrap .i64 (a0 + (16 : Int))
if (8 : Int) = 0 then none else
let v2 : Int := IntKind.wrap .i64 (v1.tdiv (8 : Int))
some v2
-- internal/bytealg.IndexRabinKarp[[]byte]
def F154_0 (f177 : LI_ → Option (Int × Int)) (self : (LI_ × LI_ × Int × Int × Int × Int × Int) → Option ((LI_ × LI_ × Int × Int × Int × Int × Int) ⊕ (Int))) (z5 : LI_ × LI_ × Int × Int × Int × Int × Int) : Option ((LI_ × LI_ × Int × Int × Int × Int × Int) ⊕ (Int)) :=
let v6 : Bool := decide (z5.2.2.2.2.2.2 < z5.2.2.2.2.1)
bif v6 then
let v7 : Int := IntKind.wrap .u32 (z5.2.2.2.2.2.1 * (16777619 : Int))
if 0 ≤ z5.2.2.2.2.2.2 ∧ z5.2.2.2.2.2.2 < (z5.1.length : Int) then
let v8 : Int := z5.1.getD z5.2.2.2.2.2.2.toNat (0 : Int)
let v9 : Int := IntKind.wrap .u32 v8
let v10 : Int := IntKind.wrap .u32 (v7 + v9)
let v11 : Int := IntKind.wrap .i64 (z5.2.2.2.2.2.2 + (1 : Int))
self (z5.1, z5.2.1, z5.2.2.1, z5.2.2.2.1, z5.2.2.2.2.1, v10, v11)
else none
else
some (.inl (z5.1, z5.2.1, z5.2.2.1, z5.2.2.2.1, z5.2.2.2.2.1, z5.2.2.2.2.2.1, z5.2.2.2.2.2.2))
def F154_1 (f177 : LI_ → Option (Int × Int)) (self : (LI_ × LI_ × Int × Int × Int × Int × Int) → Option ((LI_ × LI_ × Int × Int × Int × Int × Int) ⊕ (Int))) (z20 : LI_ × LI_ × Int × Int × Int × Int × Int) : Option ((LI_ × LI_ × Int × Int × Int × Int × Int) ⊕ (Int)) :=
let v21 : Int := (z20.1.length : Int)
let v22 : Bool := decide (z20.2.2.2.2.2.2 < v21)
bif v22 then
let v23 : Int := IntKind.wrap .u32 (z20.2.2.2.2.2.1 * (16777619 : Int))
if 0 ≤ z20.2.2.2.2.2.2 ∧ z20.2.2.2.2.2.2 < (z20.1.length : Int) then
let v24 : Int := z20.1.getD z20.2.2.2.2.2.2.toNat (0 : Int)
let v25 : Int := IntKind.wrap .u32 v24
let v26 : Int := IntKind.wrap .u32 (v23 + v25)
let v27 : Int := IntKind.wrap .i64 (z20.2.2.2.2.2.2 - z20.2.2.2.2.1)
if 0 ≤ v27 ∧ v27 < (z20.1.length : Int) then
let v28 : Int := z20.1.getD v27.toNat (0 : Int)
let v29 : Int := IntKind.wrap .u32 v28
let v30 : Int := IntKind.wrap .u32 (z20.2.2.2.1 * v29)
let v31 : Int := IntKind.wrap .u32 (v26 - v30)
let v32 : Int := IntKind.wrap .i64 (z20.2.2.2.2.2.2 + (1 : Int))
let v33 : Bool := decide (v31 = z20.2.2.1)
bif v33 == true then
let v34 : Int := IntKind.wrap .i64 (v32 - z20.2.2.2.2.1)
if 0 ≤ v34 ∧ v34 ≤ v32 ∧ v32 ≤ (z20.1.length : Int) then
let v35 : LI_ := cut z20.1 v34 v32
let v36 : ByteArray := bytesStr v35
let v37 : ByteArray := bytesStr z20.2.1
let v38 : Bool := strEq v36 v37
bif v38 then
let v39 : Int := IntKind.wrap .i64 (v32 - z20.2.2.2.2.1)
some (.inr v39)
else
self (z20.1, z20.2.1, z20.2.2.1, z20.2.2.2.1, z20.2.2.2.2.1, v31, v32)
else none
else
self (z20.1, z20.2.1, z20.2.2.1, z20.2.2.2.1, z20.2.2.2.2.1, v31, v32)
else none
else none
else
some (.inl (z20.1, z20.2.1, z20.2.2.1, z20.2.2.2.1, z20.2.2.2.2.1, z20.2.2.2.2.2.1, z20.2.2.2.2.2.2))
def r154 (f177 : LI_ → Option (Int × Int)) (lp0 : (LI_ × LI_ × Int × Int × Int × Int × Int) → Option ((LI_ × LI_ × Int × Int × Int × Int × Int) ⊕ (Int))) (lp1 : (LI_ × LI_ × Int × Int × Int × Int × Int) → Option ((LI_ × LI_ × Int × Int × Int × Int × Int) ⊕ (Int))) (a0 : LI_) (a1 : LI_) : Option (Int) :=
Option.bind (f177 a1) fun y1 =>
let v2 : Int := (a1.length : Int)
Option.bind (lp0 (a0, a1, y1.1, y1.2, v2, (0 : Int), (0 : Int))) fun s3 => onSum s3 (fun y4 =>
let v13 : Bool := decide (y4.2.2.2.2.2.1 = y4.2.2.1)
bif v13 == true then
if 0 ≤ (0 : Int) ∧ (0 : Int) ≤ y4.2.2.2.2.1 ∧ y4.2.2.2.2.1 ≤ (y4.1.length : Int) then
let v14 : LI_ := cut y4.1 (0 : Int) y4.2.2.2.2.1
let v15 : ByteArray := bytesStr v14
let v16 : ByteArray := bytesStr y4.2.1
let v17 : Bool := strEq v15 v16
bif v17 then
some (0 : Int)
else
Option.bind (lp1 (y4.1, y4.2.1, y4.2.2.1, y4.2.2.2.1, y4.2.2.2.2.1, y4.2.2.2.2.2.1, y4.2.2.2.2.1)) fun s18 => onSum s18 (fun y19 =>
some (-1 : Int)) (fun o40 => some o40)
else none
else
Option.bind (lp1 (y4.1, y4.2.1, y4.2.2.1, y4.2.2.2.1, y4.2.2.2.2.1, y4.2.2.2.2.2.1, y4.2.2.2.2.1)) fun s41 => onSum s41 (fun y42 =>
some (-1 : Int)) (fun o43 => some o43)) (fun o12 => some o12)
-- tatting/cost.Right
def r155 (f178 : Int → Option (Bool)) (a0 : (Int × (Int × (Int × Int)))) : Option (Bool) :=
Option.bind (f178 a0.1) fun y1 =>
bif y1 == true then
Option.bind (f178 a0.2.1) fun y2 =>
bif y2 == true then
let v3 : Bool := decide (a0.2.2.1 ≥ (0 : Int))
bif v3 == true then
let v4 : Int := IntKind.wrap .i64 (a0.1 + a0.2.1)
let v5 : Bool := decide (a0.2.2.1 ≤ v4)
bif v5 == true then
let v6 : Bool := decide (a0.2.2.2 ≥ (0 : Int))
bif v6 == true then
let v7 : Int := IntKind.wrap .i64 (a0.1 * a0.2.1)
let v8 : Bool := decide (a0.2.2.2 ≤ v7)
some v8
else
some false
else
some false
else
some false
else
some false
else
some false
-- math/bits.Len
def r156 (f180 : Int → Option (Int)) (a0 : Int) : Option (Int) :=
Option.bind (f180 a0) fun y1 =>
some y1
-- slices.BinarySearchFunc[[][]byte,[]byte,[]byte]
def F176_0 (f143 : LI_ → LI_ → Option (Int)) (self : (LL_ × LI_ × Int × Int × Int) → Option ((LL_ × LI_ × Int × Int × Int) ⊕ (Int × Bool))) (z4 : LL_ × LI_ × Int × Int × Int) : Option ((LL_ × LI_ × Int × Int × Int) ⊕ (Int × Bool)) :=
let v5 : Bool := decide (z4.2.2.2.1 < z4.2.2.2.2)
bif v5 then
let v6 : Int := IntKind.wrap .i64 (z4.2.2.2.1 + z4.2.2.2.2)
let v7 : Int := IntKind.wrap .u64 v6
if (1 : Int) < 0 then none else
let v8 : Int := v7.fdiv (2 ^ (min (1 : Int).toNat (IntKind.bits .u64)))
let v9 : Int := IntKind.wrap .i64 v8
if 0 ≤ v9 ∧ v9 < (z4.1.length : Int) then
let v10 : LI_ := z4.1.getD v9.toNat ([] : List Int)
Option.bind (f143 v10 z4.2.1) fun y11 =>
let v12 : Bool := decide (y11 < (0 : Int))
bif v12 then
let v13 : Int := IntKind.wrap .i64 (v9 + (1 : Int))
self (z4.1, z4.2.1, z4.2.2.1, v13, z4.2.2.2.2)
else
self (z4.1, z4.2.1, z4.2.2.1, z4.2.2.2.1, v9)
else none
else
some (.inl (z4.1, z4.2.1, z4.2.2.1, z4.2.2.2.1, z4.2.2.2.2))
def r176 (f143 : LI_ → LI_ → Option (Int)) (lp0 : (LL_ × LI_ × Int × Int × Int) → Option ((LL_ × LI_ × Int × Int × Int) ⊕ (Int × Bool))) (a0 : LL_) (a1 : LI_) : Option (Int × Bool) :=
let v1 : Int := (a0.length : Int)
Option.bind (lp0 (a0, a1, v1, (0 : Int), v1)) fun s2 => onSum s2 (fun y3 =>
let v15 : Bool := decide (y3.2.2.2.1 < y3.2.2.1)
bif v15 == true then
if 0 ≤ y3.2.2.2.1 ∧ y3.2.2.2.1 < (y3.1.length : Int) then
let v16 : LI_ := y3.1.getD y3.2.2.2.1.toNat ([] : List Int)
Option.bind (f143 v16 y3.2.1) fun y17 =>
let v18 : Bool := decide (y17 = (0 : Int))
some (y3.2.2.2.1, v18)
else none
else
some (y3.2.2.2.1, false)) (fun o14 => some o14)
-- internal/bytealg.hashStr[[]byte]
def F177_0 (self : (LI_ × Int × Int) → Option ((LI_ × Int × Int) ⊕ (Int × Int))) (z3 : LI_ × Int × Int) : Option ((LI_ × Int × Int) ⊕ (Int × Int)) :=
let v4 : Int := (z3.1.length : Int)
let v5 : Bool := decide (z3.2.2 < v4)
bif v5 then
let v6 : Int := IntKind.wrap .u32 (z3.2.1 * (16777619 : Int))
if 0 ≤ z3.2.2 ∧ z3.2.2 < (z3.1.length : Int) then
let v7 : Int := z3.1.getD z3.2.2.toNat (0 : Int)
let v8 : Int := IntKind.wrap .u32 v7
let v9 : Int := IntKind.wrap .u32 (v6 + v8)
let v10 : Int := IntKind.wrap .i64 (z3.2.2 + (1 : Int))
self (z3.1, v9, v10)
else none
else
some (.inl (z3.1, z3.2.1, z3.2.2))
def F177_1 (self : (Int × Int × Int × Int) → Option ((Int × Int × Int × Int) ⊕ (Int × Int))) (z15 : Int × Int × Int × Int) : Option ((Int × Int × Int × Int) ⊕ (Int × Int)) :=
let v16 : Bool := decide (z15.2.2.2 > (0 : Int))
bif v16 then
let v17 : Int := bitop .and .i64 z15.2.2.2 (1 : Int)
let v18 : Bool := !decide (v17 = (0 : Int))
bif v18 then
let v19 : Int := IntKind.wrap .u32 (z15.2.1 * z15.2.2.1)
let v20 : Int := IntKind.wrap .u32 (z15.2.2.1 * z15.2.2.1)
if (1 : Int) < 0 then none else
let v21 : Int := z15.2.2.2.fdiv (2 ^ (min (1 : Int).toNat (IntKind.bits .i64)))
self (z15.1, v19, v20, v21)
else
let v22 : Int := IntKind.wrap .u32 (z15.2.2.1 * z15.2.2.1)
if (1 : Int) < 0 then none else
let v23 : Int := z15.2.2.2.fdiv (2 ^ (min (1 : Int).toNat (IntKind.bits .i64)))
self (z15.1, z15.2.1, v22, v23)
else
some (.inl (z15.1, z15.2.1, z15.2.2.1, z15.2.2.2))
def r177 (lp0 : (LI_ × Int × Int) → Option ((LI_ × Int × Int) ⊕ (Int × Int))) (lp1 : (Int × Int × Int × Int) → Option ((Int × Int × Int × Int) ⊕ (Int × Int))) (a0 : LI_) : Option (Int × Int) :=
Option.bind (lp0 (a0, (0 : Int), (0 : Int))) fun s1 => onSum s1 (fun y2 =>
let v12 : Int := (y2.1.length : Int)
Option.bind (lp1 (y2.2.1, (1 : Int), (16777619 : Int), v12)) fun s13 => onSum s13 (fun y14 =>
some (y14.1, y14.2.1)) (fun o24 => some o24)) (fun o11 => some o11)
-- tatting/cost.is
def r178 (a0 : Int) : Option (Bool) :=
let v1 : Bool := decide (a0 ≥ (0 : Int))
bif v1 == true then
let v2 : Bool := decide (a0 ≤ (1048576 : Int))
some v2
else
some false
-- math/bits.Len32
def r179 (a0 : Int) : Option (Int) :=
let v1 : Bool := decide (a0 ≥ (65536 : Int))
bif v1 then
if (16 : Int) < 0 then none else
let v2 : Int := a0.fdiv (2 ^ (min (16 : Int).toNat (IntKind.bits .u32)))
let v3 : Bool := decide (v2 ≥ (256 : Int))
bif v3 then
if (8 : Int) < 0 then none else
let v4 : Int := v2.fdiv (2 ^ (min (8 : Int).toNat (IntKind.bits .u32)))
let v5 : Int := IntKind.wrap .i64 ((16 : Int) + (8 : Int))
let v6 : Int := IntKind.wrap .u8 v4
if 0 ≤ v6 ∧ v6 < ((⟨#[0, 1, 2, 2, 3, 3, 3, 3, 4, 4, 4, 4, 4, 4, 4, 4, 5, 5, 5, 5, 5, 5, 5, 5, 5, 5, 5, 5, 5, 5, 5, 5, 6, 6, 6, 6, 6, 6, 6, 6, 6, 6, 6, 6, 6, 6, 6, 6, 6, 6, 6, 6, 6, 6, 6, 6, 6, 6, 6, 6, 6, 6, 6, 6, 7, 7, 7, 7, 7, 7, 7, 7, 7, 7, 7, 7, 7, 7, 7, 7, 7, 7, 7, 7, 7, 7, 7, 7, 7, 7, 7, 7, 7, 7, 7, 7, 7, 7, 7, 7, 7, 7, 7, 7, 7, 7, 7, 7, 7, 7, 7, 7, 7, 7, 7, 7, 7, 7, 7, 7, 7, 7, 7, 7, 7, 7, 7, 7, 8, 8, 8, 8, 8, 8, 8, 8, 8, 8, 8, 8, 8, 8, 8, 8, 8, 8, 8, 8, 8, 8, 8, 8, 8, 8, 8, 8, 8, 8, 8, 8, 8, 8, 8, 8, 8, 8, 8, 8, 8, 8, 8, 8, 8, 8, 8, 8, 8, 8, 8, 8, 8, 8, 8, 8, 8, 8, 8, 8, 8, 8, 8, 8, 8, 8, 8, 8, 8, 8, 8, 8, 8, 8, 8, 8, 8, 8, 8, 8, 8, 8, 8, 8, 8, 8, 8, 8, 8, 8, 8, 8, 8, 8, 8, 8, 8, 8, 8, 8, 8, 8, 8, 8, 8, 8, 8, 8, 8, 8, 8, 8, 8, 8, 8, 8, 8, 8, 8, 8, 8, 8, 8, 8, 8, 8, 8, 8]⟩ : ByteArray).size : Int) then
let v7 : Int := byteAt (⟨#[0, 1, 2, 2, 3, 3, 3, 3, 4, 4, 4, 4, 4, 4, 4, 4, 5, 5, 5, 5, 5, 5, 5, 5, 5, 5, 5, 5, 5, 5, 5, 5, 6, 6, 6, 6, 6, 6, 6, 6, 6, 6, 6, 6, 6, 6, 6, 6, 6, 6, 6, 6, 6, 6, 6, 6, 6, 6, 6, 6, 6, 6, 6, 6, 7, 7, 7, 7, 7, 7, 7, 7, 7, 7, 7, 7, 7, 7, 7, 7, 7, 7, 7, 7, 7, 7, 7, 7, 7, 7, 7, 7, 7, 7, 7, 7, 7, 7, 7, 7, 7, 7, 7, 7, 7, 7, 7, 7, 7, 7, 7, 7, 7, 7, 7, 7, 7, 7, 7, 7, 7, 7, 7, 7, 7, 7, 7, 7, 8, 8, 8, 8, 8, 8, 8, 8, 8, 8, 8, 8, 8, 8, 8, 8, 8, 8, 8, 8, 8, 8, 8, 8, 8, 8, 8, 8, 8, 8, 8, 8, 8, 8, 8, 8, 8, 8, 8, 8, 8, 8, 8, 8, 8, 8, 8, 8, 8, 8, 8, 8, 8, 8, 8, 8, 8, 8, 8, 8, 8, 8, 8, 8, 8, 8, 8, 8, 8, 8, 8, 8, 8, 8, 8, 8, 8, 8, 8, 8, 8, 8, 8, 8, 8, 8, 8, 8, 8, 8, 8, 8, 8, 8, 8, 8, 8, 8, 8, 8, 8, 8, 8, 8, 8, 8, 8, 8, 8, 8, 8, 8, 8, 8, 8, 8, 8, 8, 8, 8, 8, 8, 8, 8, 8, 8, 8, 8]⟩ : ByteArray) v6
let v8 : Int := IntKind.wrap .i64 v7
let v9 : Int := IntKind.wrap .i64 (v5 + v8)
some v9
else none
else
let v10 : Int := IntKind.wrap .u8 v2
if 0 ≤ v10 ∧ v10 < ((⟨#[0, 1, 2, 2, 3, 3, 3, 3, 4, 4, 4, 4, 4, 4, 4, 4, 5, 5, 5, 5, 5, 5, 5, 5, 5, 5, 5, 5, 5, 5, 5, 5, 6, 6, 6, 6, 6, 6, 6, 6, 6, 6, 6, 6, 6, 6, 6, 6, 6, 6, 6, 6, 6, 6, 6, 6, 6, 6, 6, 6, 6, 6, 6, 6, 7, 7, 7, 7, 7, 7, 7, 7, 7, 7, 7, 7, 7, 7, 7, 7, 7, 7, 7, 7, 7, 7, 7, 7, 7, 7, 7, 7, 7, 7, 7, 7, 7, 7, 7, 7, 7, 7, 7, 7, 7, 7, 7, 7, 7, 7, 7, 7, 7, 7, 7, 7, 7, 7, 7, 7, 7, 7, 7, 7, 7, 7, 7, 7, 8, 8, 8, 8, 8, 8, 8, 8, 8, 8, 8, 8, 8, 8, 8, 8, 8, 8, 8, 8, 8, 8, 8, 8, 8, 8, 8, 8, 8, 8, 8, 8, 8, 8, 8, 8, 8, 8, 8, 8, 8, 8, 8, 8, 8, 8, 8, 8, 8, 8, 8, 8, 8, 8, 8, 8, 8, 8, 8, 8, 8, 8, 8, 8, 8, 8, 8, 8, 8, 8, 8, 8, 8, 8, 8, 8, 8, 8, 8, 8, 8, 8, 8, 8, 8, 8, 8, 8, 8, 8, 8, 8, 8, 8, 8, 8, 8, 8, 8, 8, 8, 8, 8, 8, 8, 8, 8, 8, 8, 8, 8, 8, 8, 8, 8, 8, 8, 8, 8, 8, 8, 8, 8, 8, 8, 8, 8, 8]⟩ : ByteArray).size : Int) then
let v11 : Int := byteAt (⟨#[0, 1, 2, 2, 3, 3, 3, 3, 4, 4, 4, 4, 4, 4, 4, 4, 5, 5, 5, 5, 5, 5, 5, 5, 5, 5, 5, 5, 5, 5, 5, 5, 6, 6, 6, 6, 6, 6, 6, 6, 6, 6, 6, 6, 6, 6, 6, 6, 6, 6, 6, 6, 6, 6, 6, 6, 6, 6, 6, 6, 6, 6, 6, 6, 7, 7, 7, 7, 7, 7, 7, 7, 7, 7, 7, 7, 7, 7, 7, 7, 7, 7, 7, 7, 7, 7, 7, 7, 7, 7, 7, 7, 7, 7, 7, 7, 7, 7, 7, 7, 7, 7, 7, 7, 7, 7, 7, 7, 7, 7, 7, 7, 7, 7, 7, 7, 7, 7, 7, 7, 7, 7, 7, 7, 7, 7, 7, 7, 8, 8, 8, 8, 8, 8, 8, 8, 8, 8, 8, 8, 8, 8, 8, 8, 8, 8, 8, 8, 8, 8, 8, 8, 8, 8, 8, 8, 8, 8, 8, 8, 8, 8, 8, 8, 8, 8, 8, 8, 8, 8, 8, 8, 8, 8, 8, 8, 8, 8, 8, 8, 8, 8, 8, 8, 8, 8, 8, 8, 8, 8, 8, 8, 8, 8, 8, 8, 8, 8, 8, 8, 8, 8, 8, 8, 8, 8, 8, 8, 8, 8, 8, 8, 8, 8, 8, 8, 8, 8, 8, 8, 8, 8, 8, 8, 8, 8, 8, 8, 8, 8, 8, 8, 8, 8, 8, 8, 8, 8, 8, 8, 8, 8, 8, 8, 8, 8, 8, 8, 8, 8, 8, 8, 8, 8, 8, 8]⟩ : ByteArray) v10
let v12 : Int := IntKind.wrap .i64 v11
let v13 : Int := IntKind.wrap .i64 ((16 : Int) + v12)
some v13
else none
else
let v14 : Bool := decide (a0 ≥ (256 : Int))
bif v14 then
if (8 : Int) < 0 then none else
let v15 : Int := a0.fdiv (2 ^ (min (8 : Int).toNat (IntKind.bits .u32)))
let v16 : Int := IntKind.wrap .i64 ((0 : Int) + (8 : Int))
let v17 : Int := IntKind.wrap .u8 v15
if 0 ≤ v17 ∧ v17 < ((⟨#[0, 1, 2, 2, 3, 3, 3, 3, 4, 4, 4, 4, 4, 4, 4, 4, 5, 5, 5, 5, 5, 5, 5, 5, 5, 5, 5, 5, 5, 5, 5, 5, 6, 6, 6, 6, 6, 6, 6, 6, 6, 6, 6, 6, 6, 6, 6, 6, 6, 6, 6, 6, 6, 6, 6, 6, 6, 6, 6, 6, 6, 6, 6, 6, 7, 7, 7, 7, 7, 7, 7, 7, 7, 7, 7, 7, 7, 7, 7, 7, 7, 7, 7, 7, 7, 7, 7, 7, 7, 7, 7, 7, 7, 7, 7, 7, 7, 7, 7, 7, 7, 7, 7, 7, 7, 7, 7, 7, 7, 7, 7, 7, 7, 7, 7, 7, 7, 7, 7, 7, 7, 7, 7, 7, 7, 7, 7, 7, 8, 8, 8, 8, 8, 8, 8, 8, 8, 8, 8, 8, 8, 8, 8, 8, 8, 8, 8, 8, 8, 8, 8, 8, 8, 8, 8, 8, 8, 8, 8, 8, 8, 8, 8, 8, 8, 8, 8, 8, 8, 8, 8, 8, 8, 8, 8, 8, 8, 8, 8, 8, 8, 8, 8, 8, 8, 8, 8, 8, 8, 8, 8, 8, 8, 8, 8, 8, 8, 8, 8, 8, 8, 8, 8, 8, 8, 8, 8, 8, 8, 8, 8, 8, 8, 8, 8, 8, 8, 8, 8, 8, 8, 8, 8, 8, 8, 8, 8, 8, 8, 8, 8, 8, 8, 8, 8, 8, 8, 8, 8, 8, 8, 8, 8, 8, 8, 8, 8, 8, 8, 8, 8, 8, 8, 8, 8, 8]⟩ : ByteArray).size : Int) then
let v18 : Int := byteAt (⟨#[0, 1, 2, 2, 3, 3, 3, 3, 4, 4, 4, 4, 4, 4, 4, 4, 5, 5, 5, 5, 5, 5, 5, 5, 5, 5, 5, 5, 5, 5, 5, 5, 6, 6, 6, 6, 6, 6, 6, 6, 6, 6, 6, 6, 6, 6, 6, 6, 6, 6, 6, 6, 6, 6, 6, 6, 6, 6, 6, 6, 6, 6, 6, 6, 7, 7, 7, 7, 7, 7, 7, 7, 7, 7, 7, 7, 7, 7, 7, 7, 7, 7, 7, 7, 7, 7, 7, 7, 7, 7, 7, 7, 7, 7, 7, 7, 7, 7, 7, 7, 7, 7, 7, 7, 7, 7, 7, 7, 7, 7, 7, 7, 7, 7, 7, 7, 7, 7, 7, 7, 7, 7, 7, 7, 7, 7, 7, 7, 8, 8, 8, 8, 8, 8, 8, 8, 8, 8, 8, 8, 8, 8, 8, 8, 8, 8, 8, 8, 8, 8, 8, 8, 8, 8, 8, 8, 8, 8, 8, 8, 8, 8, 8, 8, 8, 8, 8, 8, 8, 8, 8, 8, 8, 8, 8, 8, 8, 8, 8, 8, 8, 8, 8, 8, 8, 8, 8, 8, 8, 8, 8, 8, 8, 8, 8, 8, 8, 8, 8, 8, 8, 8, 8, 8, 8, 8, 8, 8, 8, 8, 8, 8, 8, 8, 8, 8, 8, 8, 8, 8, 8, 8, 8, 8, 8, 8, 8, 8, 8, 8, 8, 8, 8, 8, 8, 8, 8, 8, 8, 8, 8, 8, 8, 8, 8, 8, 8, 8, 8, 8, 8, 8, 8, 8, 8, 8]⟩ : ByteArray) v17
let v19 : Int := IntKind.wrap .i64 v18
let v20 : Int := IntKind.wrap .i64 (v16 + v19)
some v20
else none
else
let v21 : Int := IntKind.wrap .u8 a0
if 0 ≤ v21 ∧ v21 < ((⟨#[0, 1, 2, 2, 3, 3, 3, 3, 4, 4, 4, 4, 4, 4, 4, 4, 5, 5, 5, 5, 5, 5, 5, 5, 5, 5, 5, 5, 5, 5, 5, 5, 6, 6, 6, 6, 6, 6, 6, 6, 6, 6, 6, 6, 6, 6, 6, 6, 6, 6, 6, 6, 6, 6, 6, 6, 6, 6, 6, 6, 6, 6, 6, 6, 7, 7, 7, 7, 7, 7, 7, 7, 7, 7, 7, 7, 7, 7, 7, 7, 7, 7, 7, 7, 7, 7, 7, 7, 7, 7, 7, 7, 7, 7, 7, 7, 7, 7, 7, 7, 7, 7, 7, 7, 7, 7, 7, 7, 7, 7, 7, 7, 7, 7, 7, 7, 7, 7, 7, 7, 7, 7, 7, 7, 7, 7, 7, 7, 8, 8, 8, 8, 8, 8, 8, 8, 8, 8, 8, 8, 8, 8, 8, 8, 8, 8, 8, 8, 8, 8, 8, 8, 8, 8, 8, 8, 8, 8, 8, 8, 8, 8, 8, 8, 8, 8, 8, 8, 8, 8, 8, 8, 8, 8, 8, 8, 8, 8, 8, 8, 8, 8, 8, 8, 8, 8, 8, 8, 8, 8, 8, 8, 8, 8, 8, 8, 8, 8, 8, 8, 8, 8, 8, 8, 8, 8, 8, 8, 8, 8, 8, 8, 8, 8, 8, 8, 8, 8, 8, 8, 8, 8, 8, 8, 8, 8, 8, 8, 8, 8, 8, 8, 8, 8, 8, 8, 8, 8, 8, 8, 8, 8, 8, 8, 8, 8, 8, 8, 8, 8, 8, 8, 8, 8, 8, 8]⟩ : ByteArray).size : Int) then
let v22 : Int := byteAt (⟨#[0, 1, 2, 2, 3, 3, 3, 3, 4, 4, 4, 4, 4, 4, 4, 4, 5, 5, 5, 5, 5, 5, 5, 5, 5, 5, 5, 5, 5, 5, 5, 5, 6, 6, 6, 6, 6, 6, 6, 6, 6, 6, 6, 6, 6, 6, 6, 6, 6, 6, 6, 6, 6, 6, 6, 6, 6, 6, 6, 6, 6, 6, 6, 6, 7, 7, 7, 7, 7, 7, 7, 7, 7, 7, 7, 7, 7, 7, 7, 7, 7, 7, 7, 7, 7, 7, 7, 7, 7, 7, 7, 7, 7, 7, 7, 7, 7, 7, 7, 7, 7, 7, 7, 7, 7, 7, 7, 7, 7, 7, 7, 7, 7, 7, 7, 7, 7, 7, 7, 7, 7, 7, 7, 7, 7, 7, 7, 7, 8, 8, 8, 8, 8, 8, 8, 8, 8, 8, 8, 8, 8, 8, 8, 8, 8, 8, 8, 8, 8, 8, 8, 8, 8, 8, 8, 8, 8, 8, 8, 8, 8, 8, 8, 8, 8, 8, 8, 8, 8, 8, 8, 8, 8, 8, 8, 8, 8, 8, 8, 8, 8, 8, 8, 8, 8, 8, 8, 8, 8, 8, 8, 8, 8, 8, 8, 8, 8, 8, 8, 8, 8, 8, 8, 8, 8, 8, 8, 8, 8, 8, 8, 8, 8, 8, 8, 8, 8, 8, 8, 8, 8, 8, 8, 8, 8, 8, 8, 8, 8, 8, 8, 8, 8, 8, 8, 8, 8, 8, 8, 8, 8, 8, 8, 8, 8, 8, 8, 8, 8, 8, 8, 8, 8, 8, 8, 8]⟩ : ByteArray) v21
let v23 : Int := IntKind.wrap .i64 v22
let v24 : Int := IntKind.wrap .i64 ((0 : Int) + v23)
some v24
else none
-- math/bits.Len64
def r180 (a0 : Int) : Option (Int) :=
let v1 : Bool := decide (a0 ≥ (4294967296 : Int))
bif v1 then
if (32 : Int) < 0 then none else
let v2 : Int := a0.fdiv (2 ^ (min (32 : Int).toNat (IntKind.bits .u64)))
let v3 : Bool := decide (v2 ≥ (65536 : Int))
bif v3 then
if (16 : Int) < 0 then none else
let v4 : Int := v2.fdiv (2 ^ (min (16 : Int).toNat (IntKind.bits .u64)))
let v5 : Int := IntKind.wrap .i64 ((32 : Int) + (16 : Int))
let v6 : Bool := decide (v4 ≥ (256 : Int))
bif v6 then
if (8 : Int) < 0 then none else
let v7 : Int := v4.fdiv (2 ^ (min (8 : Int).toNat (IntKind.bits .u64)))
let v8 : Int := IntKind.wrap .i64 (v5 + (8 : Int))
let v9 : Int := IntKind.wrap .u8 v7
if 0 ≤ v9 ∧ v9 < ((⟨#[0, 1, 2, 2, 3, 3, 3, 3, 4, 4, 4, 4, 4, 4, 4, 4, 5, 5, 5, 5, 5, 5, 5, 5, 5, 5, 5, 5, 5, 5, 5, 5, 6, 6, 6, 6, 6, 6, 6, 6, 6, 6, 6, 6, 6, 6, 6, 6, 6, 6, 6, 6, 6, 6, 6, 6, 6, 6, 6, 6, 6, 6, 6, 6, 7, 7, 7, 7, 7, 7, 7, 7, 7, 7, 7, 7, 7, 7, 7, 7, 7, 7, 7, 7, 7, 7, 7, 7, 7, 7, 7, 7, 7, 7, 7, 7, 7, 7, 7, 7, 7, 7, 7, 7, 7, 7, 7, 7, 7, 7, 7, 7, 7, 7, 7, 7, 7, 7, 7, 7, 7, 7, 7, 7, 7, 7, 7, 7, 8, 8, 8, 8, 8, 8, 8, 8, 8, 8, 8, 8, 8, 8, 8, 8, 8, 8, 8, 8, 8, 8, 8, 8, 8, 8, 8, 8, 8, 8, 8, 8, 8, 8, 8, 8, 8, 8, 8, 8, 8, 8, 8, 8, 8, 8, 8, 8, 8, 8, 8, 8, 8, 8, 8, 8, 8, 8, 8, 8, 8, 8, 8, 8, 8, 8, 8, 8, 8, 8, 8, 8, 8, 8, 8, 8, 8, 8, 8, 8, 8, 8, 8, 8, 8, 8, 8, 8, 8, 8, 8, 8, 8, 8, 8, 8, 8, 8, 8, 8, 8, 8, 8, 8, 8, 8, 8, 8, 8, 8, 8, 8, 8, 8, 8, 8, 8, 8, 8, 8, 8, 8, 8, 8, 8, 8, 8, 8]⟩ : ByteArray).size : Int) then
let v10 : Int := byteAt (⟨#[0, 1, 2, 2, 3, 3, 3, 3, 4, 4, 4, 4, 4, 4, 4, 4, 5, 5, 5, 5, 5, 5, 5, 5, 5, 5, 5, 5, 5, 5, 5, 5, 6, 6, 6, 6, 6, 6, 6, 6, 6, 6, 6, 6, 6, 6, 6, 6, 6, 6, 6, 6, 6, 6, 6, 6, 6, 6, 6, 6, 6, 6, 6, 6, 7, 7, 7, 7, 7, 7, 7, 7, 7, 7, 7, 7, 7, 7, 7, 7, 7, 7, 7, 7, 7, 7, 7, 7, 7, 7, 7, 7, 7, 7, 7, 7, 7, 7, 7, 7, 7, 7, 7, 7, 7, 7, 7, 7, 7, 7, 7, 7, 7, 7, 7, 7, 7, 7, 7, 7, 7, 7, 7, 7, 7, 7, 7, 7, 8, 8, 8, 8, 8, 8, 8, 8, 8, 8, 8, 8, 8, 8, 8, 8, 8, 8, 8, 8, 8, 8, 8, 8, 8, 8, 8, 8, 8, 8, 8, 8, 8, 8, 8, 8, 8, 8, 8, 8, 8, 8, 8, 8, 8, 8, 8, 8, 8, 8, 8, 8, 8, 8, 8, 8, 8, 8, 8, 8, 8, 8, 8, 8, 8, 8, 8, 8, 8, 8, 8, 8, 8, 8, 8, 8, 8, 8, 8, 8, 8, 8, 8, 8, 8, 8, 8, 8, 8, 8, 8, 8, 8, 8, 8, 8, 8, 8, 8, 8, 8, 8, 8, 8, 8, 8, 8, 8, 8, 8, 8, 8, 8, 8, 8, 8, 8, 8, 8, 8, 8, 8, 8, 8, 8, 8, 8, 8]⟩ : ByteArray) v9
let v11 : Int := IntKind.wrap .i64 v10
let v12 : Int := IntKind.wrap .i64 (v8 + v11)
some v12
else none
else
let v13 : Int := IntKind.wrap .u8 v4
if 0 ≤ v13 ∧ v13 < ((⟨#[0, 1, 2, 2, 3, 3, 3, 3, 4, 4, 4, 4, 4, 4, 4, 4, 5, 5, 5, 5, 5, 5, 5, 5, 5, 5, 5, 5, 5, 5, 5, 5, 6, 6, 6, 6, 6, 6, 6, 6, 6, 6, 6, 6, 6, 6, 6, 6, 6, 6, 6, 6, 6, 6, 6, 6, 6, 6, 6, 6, 6, 6, 6, 6, 7, 7, 7, 7, 7, 7, 7, 7, 7, 7, 7, 7, 7, 7, 7, 7, 7, 7, 7, 7, 7, 7, 7, 7, 7, 7, 7, 7, 7, 7, 7, 7, 7, 7, 7, 7, 7, 7, 7, 7, 7, 7, 7, 7, 7, 7, 7, 7, 7, 7, 7, 7, 7, 7, 7, 7, 7, 7, 7, 7, 7, 7, 7, 7, 8, 8, 8, 8, 8, 8, 8, 8, 8, 8, 8, 8, 8, 8, 8, 8, 8, 8, 8, 8, 8, 8, 8, 8, 8, 8, 8, 8, 8, 8, 8, 8, 8, 8, 8, 8, 8, 8, 8, 8, 8, 8, 8, 8, 8, 8, 8, 8, 8, 8, 8, 8, 8, 8, 8, 8, 8, 8, 8, 8, 8, 8, 8, 8, 8, 8, 8, 8, 8, 8, 8, 8, 8, 8, 8, 8, 8, 8, 8, 8, 8, 8, 8, 8, 8, 8, 8, 8, 8, 8, 8, 8, 8, 8, 8, 8, 8, 8, 8, 8, 8, 8, 8, 8, 8, 8, 8, 8, 8, 8, 8, 8, 8, 8, 8, 8, 8, 8, 8, 8, 8, 8, 8, 8, 8, 8, 8, 8]⟩ : ByteArray).size : Int) then
let v14 : Int := byteAt (⟨#[0, 1, 2, 2, 3, 3, 3, 3, 4, 4, 4, 4, 4, 4, 4, 4, 5, 5, 5, 5, 5, 5, 5, 5, 5, 5, 5, 5, 5, 5, 5, 5, 6, 6, 6, 6, 6, 6, 6, 6, 6, 6, 6, 6, 6, 6, 6, 6, 6, 6, 6, 6, 6, 6, 6, 6, 6, 6, 6, 6, 6, 6, 6, 6, 7, 7, 7, 7, 7, 7, 7, 7, 7, 7, 7, 7, 7, 7, 7, 7, 7, 7, 7, 7, 7, 7, 7, 7, 7, 7, 7, 7, 7, 7, 7, 7, 7, 7, 7, 7, 7, 7, 7, 7, 7, 7, 7, 7, 7, 7, 7, 7, 7, 7, 7, 7, 7, 7, 7, 7, 7, 7, 7, 7, 7, 7, 7, 7, 8, 8, 8, 8, 8, 8, 8, 8, 8, 8, 8, 8, 8, 8, 8, 8, 8, 8, 8, 8, 8, 8, 8, 8, 8, 8, 8, 8, 8, 8, 8, 8, 8, 8, 8, 8, 8, 8, 8, 8, 8, 8, 8, 8, 8, 8, 8, 8, 8, 8, 8, 8, 8, 8, 8, 8, 8, 8, 8, 8, 8, 8, 8, 8, 8, 8, 8, 8, 8, 8, 8, 8, 8, 8, 8, 8, 8, 8, 8, 8, 8, 8, 8, 8, 8, 8, 8, 8, 8, 8, 8, 8, 8, 8, 8, 8, 8, 8, 8, 8, 8, 8, 8, 8, 8, 8, 8, 8, 8, 8, 8, 8, 8, 8, 8, 8, 8, 8, 8, 8, 8, 8, 8, 8, 8, 8, 8, 8]⟩ : ByteArray) v13
let v15 : Int := IntKind.wrap .i64 v14
let v16 : Int := IntKind.wrap .i64 (v5 + v15)
some v16
else none
else
let v17 : Bool := decide (v2 ≥ (256 : Int))
bif v17 then
if (8 : Int) < 0 then none else
let v18 : Int := v2.fdiv (2 ^ (min (8 : Int).toNat (IntKind.bits .u64)))
let v19 : Int := IntKind.wrap .i64 ((32 : Int) + (8 : Int))
let v20 : Int := IntKind.wrap .u8 v18
if 0 ≤ v20 ∧ v20 < ((⟨#[0, 1, 2, 2, 3, 3, 3, 3, 4, 4, 4, 4, 4, 4, 4, 4, 5, 5, 5, 5, 5, 5, 5, 5, 5, 5, 5, 5, 5, 5, 5, 5, 6, 6, 6, 6, 6, 6, 6, 6, 6, 6, 6, 6, 6, 6, 6, 6, 6, 6, 6, 6, 6, 6, 6, 6, 6, 6, 6, 6, 6, 6, 6, 6, 7, 7, 7, 7, 7, 7, 7, 7, 7, 7, 7, 7, 7, 7, 7, 7, 7, 7, 7, 7, 7, 7, 7, 7, 7, 7, 7, 7, 7, 7, 7, 7, 7, 7, 7, 7, 7, 7, 7, 7, 7, 7, 7, 7, 7, 7, 7, 7, 7, 7, 7, 7, 7, 7, 7, 7, 7, 7, 7, 7, 7, 7, 7, 7, 8, 8, 8, 8, 8, 8, 8, 8, 8, 8, 8, 8, 8, 8, 8, 8, 8, 8, 8, 8, 8, 8, 8, 8, 8, 8, 8, 8, 8, 8, 8, 8, 8, 8, 8, 8, 8, 8, 8, 8, 8, 8, 8, 8, 8, 8, 8, 8, 8, 8, 8, 8, 8, 8, 8, 8, 8, 8, 8, 8, 8, 8, 8, 8, 8, 8, 8, 8, 8, 8, 8, 8, 8, 8, 8, 8, 8, 8, 8, 8, 8, 8, 8, 8, 8, 8, 8, 8, 8, 8, 8, 8, 8, 8, 8, 8, 8, 8, 8, 8, 8, 8, 8, 8, 8, 8, 8, 8, 8, 8, 8, 8, 8, 8, 8, 8, 8, 8, 8, 8, 8, 8, 8, 8, 8, 8, 8, 8]⟩ : ByteArray).size : Int) then
let v21 : Int := byteAt (⟨#[0, 1, 2, 2, 3, 3, 3, 3, 4, 4, 4, 4, 4, 4, 4, 4, 5, 5, 5, 5, 5, 5, 5, 5, 5, 5, 5, 5, 5, 5, 5, 5, 6, 6, 6, 6, 6, 6, 6, 6, 6, 6, 6, 6, 6, 6, 6, 6, 6, 6, 6, 6, 6, 6, 6, 6, 6, 6, 6, 6, 6, 6, 6, 6, 7, 7, 7, 7, 7, 7, 7, 7, 7, 7, 7, 7, 7, 7, 7, 7, 7, 7, 7, 7, 7, 7, 7, 7, 7, 7, 7, 7, 7, 7, 7, 7, 7, 7, 7, 7, 7, 7, 7, 7, 7, 7, 7, 7, 7, 7, 7, 7, 7, 7, 7, 7, 7, 7, 7, 7, 7, 7, 7, 7, 7, 7, 7, 7, 8, 8, 8, 8, 8, 8, 8, 8, 8, 8, 8, 8, 8, 8, 8, 8, 8, 8, 8, 8, 8, 8, 8, 8, 8, 8, 8, 8, 8, 8, 8, 8, 8, 8, 8, 8, 8, 8, 8, 8, 8, 8, 8, 8, 8, 8, 8, 8, 8, 8, 8, 8, 8, 8, 8, 8, 8, 8, 8, 8, 8, 8, 8, 8, 8, 8, 8, 8, 8, 8, 8, 8, 8, 8, 8, 8, 8, 8, 8, 8, 8, 8, 8, 8, 8, 8, 8, 8, 8, 8, 8, 8, 8, 8, 8, 8, 8, 8, 8, 8, 8, 8, 8, 8, 8, 8, 8, 8, 8, 8, 8, 8, 8, 8, 8, 8, 8, 8, 8, 8, 8, 8, 8, 8, 8, 8, 8, 8]⟩ : ByteArray) v20
let v22 : Int := IntKind.wrap .i64 v21
let v23 : Int := IntKind.wrap .i64 (v19 + v22)
some v23
else none
else
let v24 : Int := IntKind.wrap .u8 v2
if 0 ≤ v24 ∧ v24 < ((⟨#[0, 1, 2, 2, 3, 3, 3, 3, 4, 4, 4, 4, 4, 4, 4, 4, 5, 5, 5, 5, 5, 5, 5, 5, 5, 5, 5, 5, 5, 5, 5, 5, 6, 6, 6, 6, 6, 6, 6, 6, 6, 6, 6, 6, 6, 6, 6, 6, 6, 6, 6, 6, 6, 6, 6, 6, 6, 6, 6, 6, 6, 6, 6, 6, 7, 7, 7, 7, 7, 7, 7, 7, 7, 7, 7, 7, 7, 7, 7, 7, 7, 7, 7, 7, 7, 7, 7, 7, 7, 7, 7, 7, 7, 7, 7, 7, 7, 7, 7, 7, 7, 7, 7, 7, 7, 7, 7, 7, 7, 7, 7, 7, 7, 7, 7, 7, 7, 7, 7, 7, 7, 7, 7, 7, 7, 7, 7, 7, 8, 8, 8, 8, 8, 8, 8, 8, 8, 8, 8, 8, 8, 8, 8, 8, 8, 8, 8, 8, 8, 8, 8, 8, 8, 8, 8, 8, 8, 8, 8, 8, 8, 8, 8, 8, 8, 8, 8, 8, 8, 8, 8, 8, 8, 8, 8, 8, 8, 8, 8, 8, 8, 8, 8, 8, 8, 8, 8, 8, 8, 8, 8, 8, 8, 8, 8, 8, 8, 8, 8, 8, 8, 8, 8, 8, 8, 8, 8, 8, 8, 8, 8, 8, 8, 8, 8, 8, 8, 8, 8, 8, 8, 8, 8, 8, 8, 8, 8, 8, 8, 8, 8, 8, 8, 8, 8, 8, 8, 8, 8, 8, 8, 8, 8, 8, 8, 8, 8, 8, 8, 8, 8, 8, 8, 8, 8, 8]⟩ : ByteArray).size : Int) then
let v25 : Int := byteAt (⟨#[0, 1, 2, 2, 3, 3, 3, 3, 4, 4, 4, 4, 4, 4, 4, 4, 5, 5, 5, 5, 5, 5, 5, 5, 5, 5, 5, 5, 5, 5, 5, 5, 6, 6, 6, 6, 6, 6, 6, 6, 6, 6, 6, 6, 6, 6, 6, 6, 6, 6, 6, 6, 6, 6, 6, 6, 6, 6, 6, 6, 6, 6, 6, 6, 7, 7, 7, 7, 7, 7, 7, 7, 7, 7, 7, 7, 7, 7, 7, 7, 7, 7, 7, 7, 7, 7, 7, 7, 7, 7, 7, 7, 7, 7, 7, 7, 7, 7, 7, 7, 7, 7, 7, 7, 7, 7, 7, 7, 7, 7, 7, 7, 7, 7, 7, 7, 7, 7, 7, 7, 7, 7, 7, 7, 7, 7, 7, 7, 8, 8, 8, 8, 8, 8, 8, 8, 8, 8, 8, 8, 8, 8, 8, 8, 8, 8, 8, 8, 8, 8, 8, 8, 8, 8, 8, 8, 8, 8, 8, 8, 8, 8, 8, 8, 8, 8, 8, 8, 8, 8, 8, 8, 8, 8, 8, 8, 8, 8, 8, 8, 8, 8, 8, 8, 8, 8, 8, 8, 8, 8, 8, 8, 8, 8, 8, 8, 8, 8, 8, 8, 8, 8, 8, 8, 8, 8, 8, 8, 8, 8, 8, 8, 8, 8, 8, 8, 8, 8, 8, 8, 8, 8, 8, 8, 8, 8, 8, 8, 8, 8, 8, 8, 8, 8, 8, 8, 8, 8, 8, 8, 8, 8, 8, 8, 8, 8, 8, 8, 8, 8, 8, 8, 8, 8, 8, 8]⟩ : ByteArray) v24
let v26 : Int := IntKind.wrap .i64 v25
let v27 : Int := IntKind.wrap .i64 ((32 : Int) + v26)
some v27
else none
else
let v28 : Bool := decide (a0 ≥ (65536 : Int))
bif v28 then
if (16 : Int) < 0 then none else
let v29 : Int := a0.fdiv (2 ^ (min (16 : Int).toNat (IntKind.bits .u64)))
let v30 : Int := IntKind.wrap .i64 ((0 : Int) + (16 : Int))
let v31 : Bool := decide (v29 ≥ (256 : Int))
bif v31 then
if (8 : Int) < 0 then none else
let v32 : Int := v29.fdiv (2 ^ (min (8 : Int).toNat (IntKind.bits .u64)))
let v33 : Int := IntKind.wrap .i64 (v30 + (8 : Int))
let v34 : Int := IntKind.wrap .u8 v32
if 0 ≤ v34 ∧ v34 < ((⟨#[0, 1, 2, 2, 3, 3, 3, 3, 4, 4, 4, 4, 4, 4, 4, 4, 5, 5, 5, 5, 5, 5, 5, 5, 5, 5, 5, 5, 5, 5, 5, 5, 6, 6, 6, 6, 6, 6, 6, 6, 6, 6, 6, 6, 6, 6, 6, 6, 6, 6, 6, 6, 6, 6, 6, 6, 6, 6, 6, 6, 6, 6, 6, 6, 7, 7, 7, 7, 7, 7, 7, 7, 7, 7, 7, 7, 7, 7, 7, 7, 7, 7, 7, 7, 7, 7, 7, 7, 7, 7, 7, 7, 7, 7, 7, 7, 7, 7, 7, 7, 7, 7, 7, 7, 7, 7, 7, 7, 7, 7, 7, 7, 7, 7, 7, 7, 7, 7, 7, 7, 7, 7, 7, 7, 7, 7, 7, 7, 8, 8, 8, 8, 8, 8, 8, 8, 8, 8, 8, 8, 8, 8, 8, 8, 8, 8, 8, 8, 8, 8, 8, 8, 8, 8, 8, 8, 8, 8, 8, 8, 8, 8, 8, 8, 8, 8, 8, 8, 8, 8, 8, 8, 8, 8, 8, 8, 8, 8, 8, 8, 8, 8, 8, 8, 8, 8, 8, 8, 8, 8, 8, 8, 8, 8, 8, 8, 8, 8, 8, 8, 8, 8, 8, 8, 8, 8, 8, 8, 8, 8, 8, 8, 8, 8, 8, 8, 8, 8, 8, 8, 8, 8, 8, 8, 8, 8, 8, 8, 8, 8, 8, 8, 8, 8, 8, 8, 8, 8, 8, 8, 8, 8, 8, 8, 8, 8, 8, 8, 8, 8, 8, 8, 8, 8, 8, 8]⟩ : ByteArray).size : Int) then
let v35 : Int := byteAt (⟨#[0, 1, 2, 2, 3, 3, 3, 3, 4, 4, 4, 4, 4, 4, 4, 4, 5, 5, 5, 5, 5, 5, 5, 5, 5, 5, 5, 5, 5, 5, 5, 5, 6, 6, 6, 6, 6, 6, 6, 6, 6, 6, 6, 6, 6, 6, 6, 6, 6, 6, 6, 6, 6, 6, 6, 6, 6, 6, 6, 6, 6, 6, 6, 6, 7, 7, 7, 7, 7, 7, 7, 7, 7, 7, 7, 7, 7, 7, 7, 7, 7, 7, 7, 7, 7, 7, 7, 7, 7, 7, 7, 7, 7, 7, 7, 7, 7, 7, 7, 7, 7, 7, 7, 7, 7, 7, 7, 7, 7, 7, 7, 7, 7, 7, 7, 7, 7, 7, 7, 7, 7, 7, 7, 7, 7, 7, 7, 7, 8, 8, 8, 8, 8, 8, 8, 8, 8, 8, 8, 8, 8, 8, 8, 8, 8, 8, 8, 8, 8, 8, 8, 8, 8, 8, 8, 8, 8, 8, 8, 8, 8, 8, 8, 8, 8, 8, 8, 8, 8, 8, 8, 8, 8, 8, 8, 8, 8, 8, 8, 8, 8, 8, 8, 8, 8, 8, 8, 8, 8, 8, 8, 8, 8, 8, 8, 8, 8, 8, 8, 8, 8, 8, 8, 8, 8, 8, 8, 8, 8, 8, 8, 8, 8, 8, 8, 8, 8, 8, 8, 8, 8, 8, 8, 8, 8, 8, 8, 8, 8, 8, 8, 8, 8, 8, 8, 8, 8, 8, 8, 8, 8, 8, 8, 8, 8, 8, 8, 8, 8, 8, 8, 8, 8, 8, 8, 8]⟩ : ByteArray) v34
let v36 : Int := IntKind.wrap .i64 v35
let v37 : Int := IntKind.wrap .i64 (v33 + v36)
some v37
else none
else
let v38 : Int := IntKind.wrap .u8 v29
if 0 ≤ v38 ∧ v38 < ((⟨#[0, 1, 2, 2, 3, 3, 3, 3, 4, 4, 4, 4, 4, 4, 4, 4, 5, 5, 5, 5, 5, 5, 5, 5, 5, 5, 5, 5, 5, 5, 5, 5, 6, 6, 6, 6, 6, 6, 6, 6, 6, 6, 6, 6, 6, 6, 6, 6, 6, 6, 6, 6, 6, 6, 6, 6, 6, 6, 6, 6, 6, 6, 6, 6, 7, 7, 7, 7, 7, 7, 7, 7, 7, 7, 7, 7, 7, 7, 7, 7, 7, 7, 7, 7, 7, 7, 7, 7, 7, 7, 7, 7, 7, 7, 7, 7, 7, 7, 7, 7, 7, 7, 7, 7, 7, 7, 7, 7, 7, 7, 7, 7, 7, 7, 7, 7, 7, 7, 7, 7, 7, 7, 7, 7, 7, 7, 7, 7, 8, 8, 8, 8, 8, 8, 8, 8, 8, 8, 8, 8, 8, 8, 8, 8, 8, 8, 8, 8, 8, 8, 8, 8, 8, 8, 8, 8, 8, 8, 8, 8, 8, 8, 8, 8, 8, 8, 8, 8, 8, 8, 8, 8, 8, 8, 8, 8, 8, 8, 8, 8, 8, 8, 8, 8, 8, 8, 8, 8, 8, 8, 8, 8, 8, 8, 8, 8, 8, 8, 8, 8, 8, 8, 8, 8, 8, 8, 8, 8, 8, 8, 8, 8, 8, 8, 8, 8, 8, 8, 8, 8, 8, 8, 8, 8, 8, 8, 8, 8, 8, 8, 8, 8, 8, 8, 8, 8, 8, 8, 8, 8, 8, 8, 8, 8, 8, 8, 8, 8, 8, 8, 8, 8, 8, 8, 8, 8]⟩ : ByteArray).size : Int) then
let v39 : Int := byteAt (⟨#[0, 1, 2, 2, 3, 3, 3, 3, 4, 4, 4, 4, 4, 4, 4, 4, 5, 5, 5, 5, 5, 5, 5, 5, 5, 5, 5, 5, 5, 5, 5, 5, 6, 6, 6, 6, 6, 6, 6, 6, 6, 6, 6, 6, 6, 6, 6, 6, 6, 6, 6, 6, 6, 6, 6, 6, 6, 6, 6, 6, 6, 6, 6, 6, 7, 7, 7, 7, 7, 7, 7, 7, 7, 7, 7, 7, 7, 7, 7, 7, 7, 7, 7, 7, 7, 7, 7, 7, 7, 7, 7, 7, 7, 7, 7, 7, 7, 7, 7, 7, 7, 7, 7, 7, 7, 7, 7, 7, 7, 7, 7, 7, 7, 7, 7, 7, 7, 7, 7, 7, 7, 7, 7, 7, 7, 7, 7, 7, 8, 8, 8, 8, 8, 8, 8, 8, 8, 8, 8, 8, 8, 8, 8, 8, 8, 8, 8, 8, 8, 8, 8, 8, 8, 8, 8, 8, 8, 8, 8, 8, 8, 8, 8, 8, 8, 8, 8, 8, 8, 8, 8, 8, 8, 8, 8, 8, 8, 8, 8, 8, 8, 8, 8, 8, 8, 8, 8, 8, 8, 8, 8, 8, 8, 8, 8, 8, 8, 8, 8, 8, 8, 8, 8, 8, 8, 8, 8, 8, 8, 8, 8, 8, 8, 8, 8, 8, 8, 8, 8, 8, 8, 8, 8, 8, 8, 8, 8, 8, 8, 8, 8, 8, 8, 8, 8, 8, 8, 8, 8, 8, 8, 8, 8, 8, 8, 8, 8, 8, 8, 8, 8, 8, 8, 8, 8, 8]⟩ : ByteArray) v38
let v40 : Int := IntKind.wrap .i64 v39
let v41 : Int := IntKind.wrap .i64 (v30 + v40)
some v41
else none
else
let v42 : Bool := decide (a0 ≥ (256 : Int))
bif v42 then
if (8 : Int) < 0 then none else
let v43 : Int := a0.fdiv (2 ^ (min (8 : Int).toNat (IntKind.bits .u64)))
let v44 : Int := IntKind.wrap .i64 ((0 : Int) + (8 : Int))
let v45 : Int := IntKind.wrap .u8 v43
if 0 ≤ v45 ∧ v45 < ((⟨#[0, 1, 2, 2, 3, 3, 3, 3, 4, 4, 4, 4, 4, 4, 4, 4, 5, 5, 5, 5, 5, 5, 5, 5, 5, 5, 5, 5, 5, 5, 5, 5, 6, 6, 6, 6, 6, 6, 6, 6, 6, 6, 6, 6, 6, 6, 6, 6, 6, 6, 6, 6, 6, 6, 6, 6, 6, 6, 6, 6, 6, 6, 6, 6, 7, 7, 7, 7, 7, 7, 7, 7, 7, 7, 7, 7, 7, 7, 7, 7, 7, 7, 7, 7, 7, 7, 7, 7, 7, 7, 7, 7, 7, 7, 7, 7, 7, 7, 7, 7, 7, 7, 7, 7, 7, 7, 7, 7, 7, 7, 7, 7, 7, 7, 7, 7, 7, 7, 7, 7, 7, 7, 7, 7, 7, 7, 7, 7, 8, 8, 8, 8, 8, 8, 8, 8, 8, 8, 8, 8, 8, 8, 8, 8, 8, 8, 8, 8, 8, 8, 8, 8, 8, 8, 8, 8, 8, 8, 8, 8, 8, 8, 8, 8, 8, 8, 8, 8, 8, 8, 8, 8, 8, 8, 8, 8, 8, 8, 8, 8, 8, 8, 8, 8, 8, 8, 8, 8, 8, 8, 8, 8, 8, 8, 8, 8, 8, 8, 8, 8, 8, 8, 8, 8, 8, 8, 8, 8, 8, 8, 8, 8, 8, 8, 8, 8, 8, 8, 8, 8, 8, 8, 8, 8, 8, 8, 8, 8, 8, 8, 8, 8, 8, 8, 8, 8, 8, 8, 8, 8, 8, 8, 8, 8, 8, 8, 8, 8, 8, 8, 8, 8, 8, 8, 8, 8]⟩ : ByteArray).size : Int) then
let v46 : Int := byteAt (⟨#[0, 1, 2, 2, 3, 3, 3, 3, 4, 4, 4, 4, 4, 4, 4, 4, 5, 5, 5, 5, 5, 5, 5, 5, 5, 5, 5, 5, 5, 5, 5, 5, 6, 6, 6, 6, 6, 6, 6, 6, 6, 6, 6, 6, 6, 6, 6, 6, 6, 6, 6, 6, 6, 6, 6, 6, 6, 6, 6, 6, 6, 6, 6, 6, 7, 7, 7, 7, 7, 7, 7, 7, 7, 7, 7, 7, 7, 7, 7, 7, 7, 7, 7, 7, 7, 7, 7, 7, 7, 7, 7, 7, 7, 7, 7, 7, 7, 7, 7, 7, 7, 7, 7, 7, 7, 7, 7, 7, 7, 7, 7, 7, 7, 7, 7, 7, 7, 7, 7, 7, 7, 7, 7, 7, 7, 7, 7, 7, 8, 8, 8, 8, 8, 8, 8, 8, 8, 8, 8, 8, 8, 8, 8, 8, 8, 8, 8, 8, 8, 8, 8, 8, 8, 8, 8, 8, 8, 8, 8, 8, 8, 8, 8, 8, 8, 8, 8, 8, 8, 8, 8, 8, 8, 8, 8, 8, 8, 8, 8, 8, 8, 8, 8, 8, 8, 8, 8, 8, 8, 8, 8, 8, 8, 8, 8, 8, 8, 8, 8, 8, 8, 8, 8, 8, 8, 8, 8, 8, 8, 8, 8, 8, 8, 8, 8, 8, 8, 8, 8, 8, 8, 8, 8, 8, 8, 8, 8, 8, 8, 8, 8, 8, 8, 8, 8, 8, 8, 8, 8, 8, 8, 8, 8, 8, 8, 8, 8, 8, 8, 8, 8, 8, 8, 8, 8, 8]⟩ : ByteArray) v45
let v47 : Int := IntKind.wrap .i64 v46
let v48 : Int := IntKind.wrap .i64 (v44 + v47)
some v48
else none
else
let v49 : Int := IntKind.wrap .u8 a0
if 0 ≤ v49 ∧ v49 < ((⟨#[0, 1, 2, 2, 3, 3, 3, 3, 4, 4, 4, 4, 4, 4, 4, 4, 5, 5, 5, 5, 5, 5, 5, 5, 5, 5, 5, 5, 5, 5, 5, 5, 6, 6, 6, 6, 6, 6, 6, 6, 6, 6, 6, 6, 6, 6, 6, 6, 6, 6, 6, 6, 6, 6, 6, 6, 6, 6, 6, 6, 6, 6, 6, 6, 7, 7, 7, 7, 7, 7, 7, 7, 7, 7, 7, 7, 7, 7, 7, 7, 7, 7, 7, 7, 7, 7, 7, 7, 7, 7, 7, 7, 7, 7, 7, 7, 7, 7, 7, 7, 7, 7, 7, 7, 7, 7, 7, 7, 7, 7, 7, 7, 7, 7, 7, 7, 7, 7, 7, 7, 7, 7, 7, 7, 7, 7, 7, 7, 8, 8, 8, 8, 8, 8, 8, 8, 8, 8, 8, 8, 8, 8, 8, 8, 8, 8, 8, 8, 8, 8, 8, 8, 8, 8, 8, 8, 8, 8, 8, 8, 8, 8, 8, 8, 8, 8, 8, 8, 8, 8, 8, 8, 8, 8, 8, 8, 8, 8, 8, 8, 8, 8, 8, 8, 8, 8, 8, 8, 8, 8, 8, 8, 8, 8, 8, 8, 8, 8, 8, 8, 8, 8, 8, 8, 8, 8, 8, 8, 8, 8, 8, 8, 8, 8, 8, 8, 8, 8, 8, 8, 8, 8, 8, 8, 8, 8, 8, 8, 8, 8, 8, 8, 8, 8, 8, 8, 8, 8, 8, 8, 8, 8, 8, 8, 8, 8, 8, 8, 8, 8, 8, 8, 8, 8, 8, 8]⟩ : ByteArray).size : Int) then
let v50 : Int := byteAt (⟨#[0, 1, 2, 2, 3, 3, 3, 3, 4, 4, 4, 4, 4, 4, 4, 4, 5, 5, 5, 5, 5, 5, 5, 5, 5, 5, 5, 5, 5, 5, 5, 5, 6, 6, 6, 6, 6, 6, 6, 6, 6, 6, 6, 6, 6, 6, 6, 6, 6, 6, 6, 6, 6, 6, 6, 6, 6, 6, 6, 6, 6, 6, 6, 6, 7, 7, 7, 7, 7, 7, 7, 7, 7, 7, 7, 7, 7, 7, 7, 7, 7, 7, 7, 7, 7, 7, 7, 7, 7, 7, 7, 7, 7, 7, 7, 7, 7, 7, 7, 7, 7, 7, 7, 7, 7, 7, 7, 7, 7, 7, 7, 7, 7, 7, 7, 7, 7, 7, 7, 7, 7, 7, 7, 7, 7, 7, 7, 7, 8, 8, 8, 8, 8, 8, 8, 8, 8, 8, 8, 8, 8, 8, 8, 8, 8, 8, 8, 8, 8, 8, 8, 8, 8, 8, 8, 8, 8, 8, 8, 8, 8, 8, 8, 8, 8, 8, 8, 8, 8, 8, 8, 8, 8, 8, 8, 8, 8, 8, 8, 8, 8, 8, 8, 8, 8, 8, 8, 8, 8, 8, 8, 8, 8, 8, 8, 8, 8, 8, 8, 8, 8, 8, 8, 8, 8, 8, 8, 8, 8, 8, 8, 8, 8, 8, 8, 8, 8, 8, 8, 8, 8, 8, 8, 8, 8, 8, 8, 8, 8, 8, 8, 8, 8, 8, 8, 8, 8, 8, 8, 8, 8, 8, 8, 8, 8, 8, 8, 8, 8, 8, 8, 8, 8, 8, 8, 8]⟩ : ByteArray) v49
let v51 : Int := IntKind.wrap .i64 v50
let v52 : Int := IntKind.wrap .i64 ((0 : Int) + v51)
some v52
else none
def g5 (call : CallFn E) : Int → Int → LI_ → LI_ → (Int × Int) → Option ((Int × (Int × (Int × (Int × ((List (Int × Int)) × HK_))))) × Int) := fun x0 x1 x2 x3 x4 => call 5 (x0, x1, x2, x3, x4)
def g6 (call : CallFn E) : Unit → Option ((Int × Int)) := fun _ => call 6 ()
def g7 (call : CallFn E) : Int → LI_ → LI_ → Int → Option (Int × Int) := fun x0 x1 x2 x3 => call 7 (x0, x1, x2, x3)
def g8 (call : CallFn E) : LI_ → LI_ → Option (LI_ × Int × Int) := fun x0 x1 => call 8 (x0, x1)
def g9 (call : CallFn E) : LI_ → LI_ → Option (LI_ × Int × Int) := fun x0 x1 => call 9 (x0, x1)
def g10 (call : CallFn E) : Unit → Option (Bool) := fun _ => call 10 ()
def g13 (call : CallFn E) : Int → Int → LI_ → LI_ → (Int × Int) → Option ((LL_ × (LL_ × (LI_ × (LI_ × (Int × (Int × (LI_ × LI_))))))) × Int × Int) := fun x0 x1 x2 x3 x4 => call 13 (x0, x1, x2, x3, x4)
def g14 (call : CallFn E) : Int → LI_ → LI_ → Option ((List (Int × Int)) × Int) := fun x0 x1 x2 => call 14 (x0, x1, x2)
def g15 (call : CallFn E) : (List (Int × Int)) → Int → Int → Int → Int → Option ((List (Int × Int)) × Int) := fun x0 x1 x2 x3 x4 => call 15 (x0, x1, x2, x3, x4)
def g16 (call : CallFn E) : LI_ → LI_ → (List (Int × Int)) → Option ((List (Int × Int)) × Int) := fun x0 x1 x2 => call 16 (x0, x1, x2)
def g17 (call : CallFn E) : LL_ → LL_ → (List (Int × Int)) → Option (HK_ × Int) := fun x0 x1 x2 => call 17 (x0, x1, x2)
def g18 (call : CallFn E) : Int → LI_ → LI_ → Option ((LL_ × (LL_ × (LI_ × (LI_ × (Int × (Int × (LI_ × LI_))))))) × Int) := fun x0 x1 x2 => call 18 (x0, x1, x2)
def g19 (call : CallFn E) : LI_ → LI_ → Int → Option (Int × Int × Int) := fun x0 x1 x2 => call 19 (x0, x1, x2)
def g20 (call : CallFn E) : LI_ → Option (Int × HK_ × Int × Int) := fun x0 => call 20 x0
def g21 (call : CallFn E) : Int → HK_ → LI_ → Option (LI_ × Int) := fun x0 x1 x2 => call 21 (x0, x1, x2)
def g22 (call : CallFn E) : HK_ → Option (HK_ × Int) := fun x0 => call 22 x0
def g23 (call : CallFn E) : Int → Int → LI_ → LI_ → (Int × Int) → Option (Int × Int × Int) := fun x0 x1 x2 x3 x4 => call 23 (x0, x1, x2, x3, x4)
def g29 (call : CallFn E) : Int → LI_ → Option (Int × Int) := fun x0 x1 => call 29 (x0, x1)
def g30 (call : CallFn E) : LI_ → LI_ → Option ((Int × (Int × (Int × Int)))) := fun x0 x1 => call 30 (x0, x1)
def g31 (call : CallFn E) : (Int × (Int × (Int × Int))) → Option (Int) := fun x0 => call 31 x0
def g32 (call : CallFn E) : Int → (Int × (Int × (Int × Int))) → Int → Option (Int) := fun x0 x1 x2 => call 32 (x0, x1, x2)
def g33 (call : CallFn E) : LI_ → LI_ → Option ((List (Int × Int)) × Int) := fun x0 x1 => call 33 (x0, x1)
def g42 (call : CallFn E) : Int → Option (Bool) := fun x0 => call 42 x0
def g43 (call : CallFn E) : LI_ → LI_ → (List (Int × Int)) → Option (Bool) := fun x0 x1 x2 => call 43 (x0, x1, x2)
def g44 (call : CallFn E) : LI_ → LI_ → Option (Int) := fun x0 x1 => call 44 (x0, x1)
def g45 (call : CallFn E) : LI_ → LI_ → Option ((List (Int × Int))) := fun x0 x1 => call 45 (x0, x1)
def g46 (call : CallFn E) : LL_ → LL_ → Option (LI_ × LI_ × Int) := fun x0 x1 => call 46 (x0, x1)
def g47 (call : CallFn E) : Int → Int → Int → Int → HK_ → LL_ → LL_ → Option (Int × Int × HK_ × LL_ × LL_) := fun x0 x1 x2 x3 x4 x5 x6 => call 47 (x0, x1, x2, x3, x4, x5, x6)
def g48 (call : CallFn E) : LL_ → Option (LL_) := fun x0 => call 48 x0
def g49 (call : CallFn E) : Int → LI_ → Option (LL_ × Int) := fun x0 x1 => call 49 (x0, x1)
def g50 (call : CallFn E) : LI_ → LI_ → Option (Int × Int) := fun x0 x1 => call 50 (x0, x1)
def g51 (call : CallFn E) : LI_ → LI_ → Option (LI_ × LI_) := fun x0 x1 => call 51 (x0, x1)
def g52 (call : CallFn E) : Int → Int → Int → Option (Int × Int × Bool) := fun x0 x1 x2 => call 52 (x0, x1, x2)
def g53 (call : CallFn E) : LI_ → LI_ → Int → Int → Int → (Int × LI_) → Option ((Int × LI_)) := fun x0 x1 x2 x3 x4 x5 => call 53 (x0, x1, x2, x3, x4, x5)
def g54 (call : CallFn E) : (Int × LI_) → Int → Option (Int) := fun x0 x1 => call 54 (x0, x1)
def g55 (call : CallFn E) : Int → Int → Int → Option (Int) := fun x0 x1 x2 => call 55 (x0, x1, x2)
def g56 (call : CallFn E) : (LI_ × (Int × Int)) → Option (Bool × (LI_ × (Int × Int))) := fun x0 => call 56 x0
def g57 (call : CallFn E) : (LI_ × (Int × Int)) → Option (Int × Int × Int × Bool × (LI_ × (Int × Int))) := fun x0 => call 57 x0
def g58 (call : CallFn E) : Int → (LI_ × (Int × Int)) → Option (LL_ × Int × Bool × (LI_ × (Int × Int))) := fun x0 x1 => call 58 (x0, x1)
def g59 (call : CallFn E) : ByteArray → (LI_ × (Int × Int)) → Option (Bool × (LI_ × (Int × Int))) := fun x0 x1 => call 59 (x0, x1)
def g60 (call : CallFn E) : HK_ → LL_ → Option (LL_ × Int) := fun x0 x1 => call 60 (x0, x1)
def g61 (call : CallFn E) : LL_ → Option (LI_) := fun x0 => call 61 x0
def g62 (call : CallFn E) : HK_ → Option (Bool) := fun x0 => call 62 x0
def g63 (call : CallFn E) : LL_ → LL_ → Option (LL_) := fun x0 x1 => call 63 (x0, x1)
def g70 (call : CallFn E) : LI_ → LI_ → Option (Int) := fun x0 x1 => call 70 (x0, x1)
def g71 (call : CallFn E) : Int → (Int × (Int × (Int × Int))) → Option (Int × Int) := fun x0 x1 => call 71 (x0, x1)
def g72 (call : CallFn E) : Int → (Int × (Int × (Int × Int))) → Option (Int × Int) := fun x0 x1 => call 72 (x0, x1)
def g73 (call : CallFn E) : LI_ → LI_ → Option (LL_) := fun x0 x1 => call 73 (x0, x1)
def g97 (call : CallFn E) : LI_ → Int → Option (Bool) := fun x0 x1 => call 97 (x0, x1)
def g98 (call : CallFn E) : LL_ → LI_ → LI_ → Int → Int → Option ((Int × Int) × Bool) := fun x0 x1 x2 x3 x4 => call 98 (x0, x1, x2, x3, x4)
def g99 (call : CallFn E) : LL_ → Option (LL_) := fun x0 => call 99 x0
def g100 (call : CallFn E) : (List LL_) → Option (LL_) := fun x0 => call 100 x0
def g101 (call : CallFn E) : LL_ → LL_ → Option (LI_ × Bool) := fun x0 x1 => call 101 (x0, x1)
def g102 (call : CallFn E) : LI_ → Option (LI_) := fun x0 => call 102 x0
def g103 (call : CallFn E) : Int → Option (Bool) := fun x0 => call 103 x0
def g104 (call : CallFn E) : LI_ → Int → Option (Int) := fun x0 x1 => call 104 (x0, x1)
def g105 (call : CallFn E) : LI_ → Option (LI_) := fun x0 => call 105 x0
def g106 (call : CallFn E) : Int → Option (Bool) := fun x0 => call 106 x0
def g107 (call : CallFn E) : Int → Option (ByteArray) := fun x0 => call 107 x0
def g108 (call : CallFn E) : (LI_ × (Int × Int)) → Option (Int × Bool × (LI_ × (Int × Int))) := fun x0 => call 108 x0
def g109 (call : CallFn E) : (LI_ × (Int × Int)) → Option (LI_ × Bool × (LI_ × (Int × Int))) := fun x0 => call 109 x0
def g110 (call : CallFn E) : LI_ → LI_ → Option (Bool) := fun x0 x1 => call 110 (x0, x1)
def g111 (call : CallFn E) : LL_ → LL_ → Int → Option (Bool) := fun x0 x1 x2 => call 111 (x0, x1, x2)
def g112 (call : CallFn E) : LL_ → Option (Bool) := fun x0 => call 112 x0
def g115 (call : CallFn E) : LI_ → Option (Int) := fun x0 => call 115 x0
def g116 (call : CallFn E) : LI_ → Int → Option (Int) := fun x0 x1 => call 116 (x0, x1)
def g117 (call : CallFn E) : LI_ → LI_ → Option (Int) := fun x0 x1 => call 117 (x0, x1)
def g118 (call : CallFn E) : Int → (Int × (Int × (Int × Int))) → Option (Bool) := fun x0 x1 => call 118 (x0, x1)
def g119 (call : CallFn E) : Int → Int → Option (Int) := fun x0 x1 => call 119 (x0, x1)
def g120 (call : CallFn E) : Int → Option (Int) := fun x0 => call 120 x0
def g141 (call : CallFn E) : LL_ → Option (LL_) := fun x0 => call 141 x0
def g142 (call : CallFn E) : LL_ → Option (LL_) := fun x0 => call 142 x0
def g143 (call : CallFn E) : LI_ → LI_ → Option (Int) := fun x0 x1 => call 143 (x0, x1)
def g144 (call : CallFn E) : LL_ → Option (LL_) := fun x0 => call 144 x0
def g145 (call : CallFn E) : LI_ → LI_ → Option (Bool) := fun x0 x1 => call 145 (x0, x1)
def g146 (call : CallFn E) : Int → LL_ → Option (LL_) := fun x0 x1 => call 146 (x0, x1)
def g147 (call : CallFn E) : LL_ → LI_ → Option (Int × Bool) := fun x0 x1 => call 147 (x0, x1)
def g148 (call : CallFn E) : LI_ → Int → Option (Int) := fun x0 x1 => call 148 (x0, x1)
def g149 (call : CallFn E) : Int → LI_ → Option (Bool) := fun x0 x1 => call 149 (x0, x1)
def g150 (call : CallFn E) : LL_ → LL_ → Option (Bool) := fun x0 x1 => call 150 (x0, x1)
def g151 (call : CallFn E) : ByteArray → Option (Int) := fun x0 => call 151 x0
def g153 (call : CallFn E) : Int → Option (Int) := fun x0 => call 153 x0
def g154 (call : CallFn E) : LI_ → LI_ → Option (Int) := fun x0 x1 => call 154 (x0, x1)
def g155 (call : CallFn E) : (Int × (Int × (Int × Int))) → Option (Bool) := fun x0 => call 155 x0
def g156 (call : CallFn E) : Int → Option (Int) := fun x0 => call 156 x0
def g175 (call : CallFn E) : LI_ → LI_ → Option (Int) := fun x0 x1 => call 175 (x0, x1)
def g176 (call : CallFn E) : LL_ → LI_ → Option (Int × Bool) := fun x0 x1 => call 176 (x0, x1)
def g177 (call : CallFn E) : LI_ → Option (Int × Int) := fun x0 => call 177 x0
def g178 (call : CallFn E) : Int → Option (Bool) := fun x0 => call 178 x0
def g179 (call : CallFn E) : Int → Option (Int) := fun x0 => call 179 x0
def g180 (call : CallFn E) : Int → Option (Int) := fun x0 => call 180 x0
noncomputable def q5 (call : CallFn E) (n : Nat) (a0 : Int) (a1 : Int) (a2 : LI_) (a3 : LI_) (a4 : (Int × Int)) : Option ((Int × (Int × (Int × (Int × ((List (Int × Int)) × HK_))))) × Int) := runHow E call n s5 (a0, a1, a2, a3, a4) h5
theorem rr5 (call : CallFn E) (n : Nat) (a0 : Int) (a1 : Int) (a2 : LI_) (a3 : LI_) (a4 : (Int × Int)) : q5 call n a0 a1 a2 a3 a4 = r5 (g13 call) (g14 call) (g15 call) (g16 call) (g17 call)  a0 a1 a2 a3 a4 := by kernel_rfl
theorem gq5 (n : Nat) (a0 : Int) (a1 : Int) (a2 : LI_) (a3 : LI_) (a4 : (Int × Int)) : g5 (evalF E (n + 1)) a0 a1 a2 a3 a4 = q5 (evalF E n) n a0 a1 a2 a3 a4 := by kernel_rfl
noncomputable def q6 (call : CallFn E) (n : Nat) (_ : Unit) : Option ((Int × Int)) := runHow E call n s6 () h6
theorem rr6 (call : CallFn E) (n : Nat) (u : Unit) : q6 call n u = r6   u := by kernel_rfl
theorem gq6 (n : Nat) (u : Unit) : g6 (evalF E (n + 1)) u = q6 (evalF E n) n u := by kernel_rfl
noncomputable def q7 (call : CallFn E) (n : Nat) (a0 : Int) (a1 : LI_) (a2 : LI_) (a3 : Int) : Option (Int × Int) := runHow E call n s7 (a0, a1, a2, a3) h7
theorem rr7 (call : CallFn E) (n : Nat) (a0 : Int) (a1 : LI_) (a2 : LI_) (a3 : Int) : q7 call n a0 a1 a2 a3 = r7 (g18 call) (g19 call)  a0 a1 a2 a3 := by kernel_rfl
theorem gq7 (n : Nat) (a0 : Int) (a1 : LI_) (a2 : LI_) (a3 : Int) : g7 (evalF E (n + 1)) a0 a1 a2 a3 = q7 (evalF E n) n a0 a1 a2 a3 := by kernel_rfl
noncomputable def q8 (call : CallFn E) (n : Nat) (a0 : LI_) (a1 : LI_) : Option (LI_ × Int × Int) := runHow E call n s8 (a0, a1) h8
theorem rr8 (call : CallFn E) (n : Nat) (a0 : LI_) (a1 : LI_) : q8 call n a0 a1 = r8 (g20 call) (g21 call)  a0 a1 := by kernel_rfl
theorem gq8 (n : Nat) (a0 : LI_) (a1 : LI_) : g8 (evalF E (n + 1)) a0 a1 = q8 (evalF E n) n a0 a1 := by kernel_rfl
noncomputable def q9 (call : CallFn E) (n : Nat) (a0 : LI_) (a1 : LI_) : Option (LI_ × Int × Int) := runHow E call n s9 (a0, a1) h9
theorem rr9 (call : CallFn E) (n : Nat) (a0 : LI_) (a1 : LI_) : q9 call n a0 a1 = r9 (g20 call) (g21 call) (g22 call)  a0 a1 := by kernel_rfl
theorem gq9 (n : Nat) (a0 : LI_) (a1 : LI_) : g9 (evalF E (n + 1)) a0 a1 = q9 (evalF E n) n a0 a1 := by kernel_rfl
noncomputable def q10 (call : CallFn E) (n : Nat) (_ : Unit) : Option (Bool) := runHow E call n s10 () h10
theorem rr10 (call : CallFn E) (n : Nat) (u : Unit) : q10 call n u = r10 (g5 call) (g6 call) (g7 call) (g23 call)  u := by kernel_rfl
theorem gq10 (n : Nat) (u : Unit) : g10 (evalF E (n + 1)) u = q10 (evalF E n) n u := by kernel_rfl
noncomputable def q13 (call : CallFn E) (n : Nat) (a0 : Int) (a1 : Int) (a2 : LI_) (a3 : LI_) (a4 : (Int × Int)) : Option ((LL_ × (LL_ × (LI_ × (LI_ × (Int × (Int × (LI_ × LI_))))))) × Int × Int) := runHow E call n s13 (a0, a1, a2, a3, a4) h13
theorem rr13 (call : CallFn E) (n : Nat) (a0 : Int) (a1 : Int) (a2 : LI_) (a3 : LI_) (a4 : (Int × Int)) : q13 call n a0 a1 a2 a3 a4 = r13 (g18 call) (g29 call) (g30 call) (g31 call) (g32 call)  a0 a1 a2 a3 a4 := by kernel_rfl
theorem gq13 (n : Nat) (a0 : Int) (a1 : Int) (a2 : LI_) (a3 : LI_) (a4 : (Int × Int)) : g13 (evalF E (n + 1)) a0 a1 a2 a3 a4 = q13 (evalF E n) n a0 a1 a2 a3 a4 := by kernel_rfl
noncomputable def q14 (call : CallFn E) (n : Nat) (a0 : Int) (a1 : LI_) (a2 : LI_) : Option ((List (Int × Int)) × Int) := runHow E call n s14 (a0, a1, a2) h14
theorem rr14 (call : CallFn E) (n : Nat) (a0 : Int) (a1 : LI_) (a2 : LI_) : q14 call n a0 a1 a2 = r14 (g33 call)  a0 a1 a2 := by kernel_rfl
theorem gq14 (n : Nat) (a0 : Int) (a1 : LI_) (a2 : LI_) : g14 (evalF E (n + 1)) a0 a1 a2 = q14 (evalF E n) n a0 a1 a2 := by kernel_rfl
def L15_0 : LH := ⟨[0, 1, 2, 3, 4, 12, 49, 50], ⟨[.dat (.slice (.pair (.int .i64) (.one (.int .i64)))), .dat (.int .i64), .dat (.int .i64), .dat (.int .i64), .dat (.int .i64), .ref 0, .dat (.int .i64), .dat (.int .i64)], [.row (.pair (.int .i64) (.one (.int .i64)))]⟩, 0⟩
noncomputable def b15_0 : Code := codeAt c15 [1, 1, 1, 0, 1, 0, 0]
noncomputable def lq15_0 (call : CallFn E) (n m : Nat) (y : (List (Int × Int)) × Int × Int × Int × Int × Int × Int × (List (Int × Int))) : Option (((List (Int × Int)) × Int × Int × Int × Int × Int × Int × (List (Int × Int))) ⊕ ((List (Int × Int)) × Int)) := loopAt (ctxOf E call n s15 Tryz.f15 hs15) b15_0 [0, 1, 0, 1, 1, 1] L15_0 m y
def L15_1 : LH := ⟨[1, 2, 3, 4, 12, 60, 61, 62], ⟨[.dat (.int .i64), .dat (.int .i64), .dat (.int .i64), .dat (.int .i64), .ref 0, .dat (.slice (.pair (.int .i64) (.one (.int .i64)))), .dat (.int .i64), .dat (.int .i64)], [.row (.pair (.int .i64) (.one (.int .i64)))]⟩, 2⟩
noncomputable def b15_1 : Code := codeAt c15 [1, 1, 1, 1, 0, 1, 0, 0]
noncomputable def lq15_1 (call : CallFn E) (n m : Nat) (y : Int × Int × Int × Int × (List (Int × Int)) × Int × Int × (List (Int × Int))) : Option ((Int × Int × Int × Int × (List (Int × Int)) × Int × Int × (List (Int × Int))) ⊕ ((List (Int × Int)) × Int)) := loopAt (ctxOf E call n s15 Tryz.f15 hs15) b15_1 [0, 1, 0, 1, 1, 1, 1] L15_1 m y
def L15_2 : LH := ⟨[3, 4, 12, 16], ⟨[.dat (.int .i64), .dat (.int .i64), .ref 0, .dat (.int .i64)], [.row (.pair (.int .i64) (.one (.int .i64)))]⟩, 4⟩
noncomputable def b15_2 : Code := codeAt c15 [1, 1, 1, 1, 1, 0, 1, 0, 0]
noncomputable def lq15_2 (call : CallFn E) (n m : Nat) (y : Int × Int × Int × (List (Int × Int))) : Option ((Int × Int × Int × (List (Int × Int))) ⊕ ((List (Int × Int)) × Int)) := loopAt (ctxOf E call n s15 Tryz.f15 hs15) b15_2 [0, 1, 0, 1, 1, 1, 1, 1] L15_2 m y
theorem lp15_2 (call : CallFn E) (n m : Nat) (y : Int × Int × Int × (List (Int × Int))) : lq15_2 call n (m + 1) y = F15_2 (g42 call)  (lq15_2 call n m) y := by kernel_rfl
theorem lp15_1 (call : CallFn E) (n m : Nat) (y : Int × Int × Int × Int × (List (Int × Int)) × Int × Int × (List (Int × Int))) : lq15_1 call n (m + 1) y = F15_1 (g42 call)  (lq15_1 call n m) y := by kernel_rfl
theorem lp15_0 (call : CallFn E) (n m : Nat) (y : (List (Int × Int)) × Int × Int × Int × Int × Int × Int × (List (Int × Int))) : lq15_0 call n (m + 1) y = F15_0 (g42 call)  (lq15_0 call n m) y := by kernel_rfl
noncomputable def q15 (call : CallFn E) (n : Nat) (a0 : (List (Int × Int))) (a1 : Int) (a2 : Int) (a3 : Int) (a4 : Int) : Option ((List (Int × Int)) × Int) := runHow E call n s15 (a0, a1, a2, a3, a4) h15
theorem rr15 (call : CallFn E) (n : Nat) (a0 : (List (Int × Int))) (a1 : Int) (a2 : Int) (a3 : Int) (a4 : Int) : q15 call n a0 a1 a2 a3 a4 = r15 (g42 call) (lq15_0 call n n) (lq15_1 call n n) (lq15_2 call n n) a0 a1 a2 a3 a4 := by kernel_rfl
theorem gq15 (n : Nat) (a0 : (List (Int × Int))) (a1 : Int) (a2 : Int) (a3 : Int) (a4 : Int) : g15 (evalF E (n + 1)) a0 a1 a2 a3 a4 = q15 (evalF E n) n a0 a1 a2 a3 a4 := by kernel_rfl
noncomputable def q16 (call : CallFn E) (n : Nat) (a0 : LI_) (a1 : LI_) (a2 : (List (Int × Int))) : Option ((List (Int × Int)) × Int) := runHow E call n s16 (a0, a1, a2) h16
theorem rr16 (call : CallFn E) (n : Nat) (a0 : LI_) (a1 : LI_) (a2 : (List (Int × Int))) : q16 call n a0 a1 a2 = r16 (g43 call) (g44 call) (g45 call)  a0 a1 a2 := by kernel_rfl
theorem gq16 (n : Nat) (a0 : LI_) (a1 : LI_) (a2 : (List (Int × Int))) : g16 (evalF E (n + 1)) a0 a1 a2 = q16 (evalF E n) n a0 a1 a2 := by kernel_rfl
def L17_0 : LH := ⟨[3, 4, 11, 14, 30, 31, 32], ⟨[.ptr 0 0, .ptr 1 0, .ptr 2 0, .fnc 47 [3, 4, 2, 0, 1], .dat (.slice (.pair (.int .i64) (.one (.int .i64)))), .dat (.int .i64), .dat (.int .i64)], [.var (.slice (.slice (.int .u8))), .var (.slice (.slice (.int .u8))), .vrow (.pair (.int .i64) (.pair (.slice (.slice (.int .u8))) (.one (.slice (.slice (.int .u8)))))), .var (.int .i64), .var (.int .i64)]⟩, 0⟩
noncomputable def b17_0 : Code := codeAt c17 [1, 1, 1, 1, 1, 1, 0, 1, 0, 0]
noncomputable def lq17_0 (call : CallFn E) (n m : Nat) (y : (List (Int × Int)) × Int × Int × LL_ × LL_ × HK_ × Int × Int) : Option (((List (Int × Int)) × Int × Int × LL_ × LL_ × HK_ × Int × Int) ⊕ (HK_ × Int)) := loopAt (ctxOf E call n s17 Tryz.f17 hs17) b17_0 [0, 1, 0, 1, 1, 1, 1, 1, 1] L17_0 m y
theorem lp17_0 (call : CallFn E) (n m : Nat) (y : (List (Int × Int)) × Int × Int × LL_ × LL_ × HK_ × Int × Int) : lq17_0 call n (m + 1) y = F17_0 (g43 call) (g46 call) (g47 call)  (lq17_0 call n m) y := by kernel_rfl
noncomputable def q17 (call : CallFn E) (n : Nat) (a0 : LL_) (a1 : LL_) (a2 : (List (Int × Int))) : Option (HK_ × Int) := runHow E call n s17 (a0, a1, a2) h17
theorem rr17 (call : CallFn E) (n : Nat) (a0 : LL_) (a1 : LL_) (a2 : (List (Int × Int))) : q17 call n a0 a1 a2 = r17 (g43 call) (g46 call) (g47 call) (lq17_0 call n n) a0 a1 a2 := by kernel_rfl
theorem gq17 (n : Nat) (a0 : LL_) (a1 : LL_) (a2 : (List (Int × Int))) : g17 (evalF E (n + 1)) a0 a1 a2 = q17 (evalF E n) n a0 a1 a2 := by kernel_rfl
noncomputable def q18 (call : CallFn E) (n : Nat) (a0 : Int) (a1 : LI_) (a2 : LI_) : Option ((LL_ × (LL_ × (LI_ × (LI_ × (Int × (Int × (LI_ × LI_))))))) × Int) := runHow E call n s18 (a0, a1, a2) h18
theorem rr18 (call : CallFn E) (n : Nat) (a0 : Int) (a1 : LI_) (a2 : LI_) : q18 call n a0 a1 a2 = r18 (g46 call) (g49 call) (g50 call) (g51 call)  a0 a1 a2 := by kernel_rfl
theorem gq18 (n : Nat) (a0 : Int) (a1 : LI_) (a2 : LI_) : g18 (evalF E (n + 1)) a0 a1 a2 = q18 (evalF E n) n a0 a1 a2 := by kernel_rfl
def L19_0 : LH := ⟨[0, 1, 2, 9, 10, 12, 31, 32], ⟨[.dat (.slice (.int .i64)), .dat (.slice (.int .i64)), .dat (.int .i64), .dat (.int .i64), .dat (.int .i64), .ptr 0 0, .dat (.int .i64), .dat (.int .i64)], [.var (.pair (.int .i64) (.one (.slice (.int .i64))))]⟩, 0⟩
noncomputable def b19_0 : Code := codeAt c19 [1, 1, 1, 1, 1, 0, 1, 0, 0]
noncomputable def lq19_0 (call : CallFn E) (n m : Nat) (y : LI_ × LI_ × Int × Int × Int × Int × Int × (Int × LI_)) : Option ((LI_ × LI_ × Int × Int × Int × Int × Int × (Int × LI_)) ⊕ (Int × Int × Int)) := loopAt (ctxOf E call n s19 Tryz.f19 hs19) b19_0 [0, 1, 0, 1, 1, 1, 1, 1] L19_0 m y
theorem lp19_0 (call : CallFn E) (n m : Nat) (y : LI_ × LI_ × Int × Int × Int × Int × Int × (Int × LI_)) : lq19_0 call n (m + 1) y = F19_0 (g52 call) (g53 call) (g54 call) (g55 call)  (lq19_0 call n m) y := by kernel_rfl
noncomputable def q19 (call : CallFn E) (n : Nat) (a0 : LI_) (a1 : LI_) (a2 : Int) : Option (Int × Int × Int) := runHow E call n s19 (a0, a1, a2) h19
theorem rr19 (call : CallFn E) (n : Nat) (a0 : LI_) (a1 : LI_) (a2 : Int) : q19 call n a0 a1 a2 = r19 (g52 call) (g53 call) (g54 call) (g55 call) (lq19_0 call n n) a0 a1 a2 := by kernel_rfl
theorem gq19 (n : Nat) (a0 : LI_) (a1 : LI_) (a2 : Int) : g19 (evalF E (n + 1)) a0 a1 a2 = q19 (evalF E n) n a0 a1 a2 := by kernel_rfl
def L20_0 : LH := ⟨[0, 3, 6, 7], ⟨[.dat (.slice (.int .u8)), .ref 0, .ptr 1 0, .dat (.int .i64)], [.row (.pair (.int .i64) (.pair (.slice (.slice (.int .u8))) (.one (.slice (.slice (.int .u8)))))), .var (.pair (.slice (.int .u8)) (.pair (.int .i64) (.one (.int .i64))))]⟩, 0⟩
noncomputable def b20_0 : Code := codeAt c20 [1, 1, 1, 1, 0, 0, 0]
noncomputable def lq20_0 (call : CallFn E) (n m : Nat) (y : LI_ × Int × HK_ × (LI_ × (Int × Int))) : Option ((LI_ × Int × HK_ × (LI_ × (Int × Int))) ⊕ (Int × HK_ × Int × Int)) := loopAt (ctxOf E call n s20 Tryz.f20 hs20) b20_0 [0, 0, 1, 1, 1, 1] L20_0 m y
theorem lp20_0 (call : CallFn E) (n m : Nat) (y : LI_ × Int × HK_ × (LI_ × (Int × Int))) : lq20_0 call n (m + 1) y = F20_0 (g56 call) (g57 call) (g58 call) (g59 call)  (lq20_0 call n m) y := by kernel_rfl
noncomputable def q20 (call : CallFn E) (n : Nat) (a0 : LI_) : Option (Int × HK_ × Int × Int) := runHow E call n s20 a0 h20
theorem rr20 (call : CallFn E) (n : Nat) (a0 : LI_) : q20 call n a0 = r20 (g56 call) (g57 call) (g58 call) (g59 call) (lq20_0 call n n) a0 := by kernel_rfl
theorem gq20 (n : Nat) (a0 : LI_) : g20 (evalF E (n + 1)) a0 = q20 (evalF E n) n a0 := by kernel_rfl
noncomputable def q21 (call : CallFn E) (n : Nat) (a0 : Int) (a1 : HK_) (a2 : LI_) : Option (LI_ × Int) := runHow E call n s21 (a0, a1, a2) h21
theorem rr21 (call : CallFn E) (n : Nat) (a0 : Int) (a1 : HK_) (a2 : LI_) : q21 call n a0 a1 a2 = r21 (g49 call) (g60 call) (g61 call)  a0 a1 a2 := by kernel_rfl
theorem gq21 (n : Nat) (a0 : Int) (a1 : HK_) (a2 : LI_) : g21 (evalF E (n + 1)) a0 a1 a2 = q21 (evalF E n) n a0 a1 a2 := by kernel_rfl
def L22_0 : LH := ⟨[4, 5, 12, 13, 14], ⟨[.ref 0, .dat (.int .i64), .dat (.slice (.pair (.int .i64) (.pair (.slice (.slice (.int .u8))) (.one (.slice (.slice (.int .u8))))))), .dat (.int .i64), .dat (.int .i64)], [.row (.pair (.int .i64) (.pair (.slice (.slice (.int .u8))) (.one (.slice (.slice (.int .u8))))))]⟩, 0⟩
noncomputable def b22_0 : Code := codeAt c22 [1, 1, 1, 1, 0, 1, 0, 0]
noncomputable def lq22_0 (call : CallFn E) (n m : Nat) (y : Int × HK_ × Int × Int × HK_) : Option ((Int × HK_ × Int × Int × HK_) ⊕ (HK_ × Int)) := loopAt (ctxOf E call n s22 Tryz.f22 hs22) b22_0 [0, 1, 0, 1, 1, 1, 1] L22_0 m y
theorem lp22_0 (call : CallFn E) (n m : Nat) (y : Int × HK_ × Int × Int × HK_) : lq22_0 call n (m + 1) y = F22_0 (g62 call) (g63 call)  (lq22_0 call n m) y := by kernel_rfl
noncomputable def q22 (call : CallFn E) (n : Nat) (a0 : HK_) : Option (HK_ × Int) := runHow E call n s22 a0 h22
theorem rr22 (call : CallFn E) (n : Nat) (a0 : HK_) : q22 call n a0 = r22 (g62 call) (g63 call) (lq22_0 call n n) a0 := by kernel_rfl
theorem gq22 (n : Nat) (a0 : HK_) : g22 (evalF E (n + 1)) a0 = q22 (evalF E n) n a0 := by kernel_rfl
noncomputable def q23 (call : CallFn E) (n : Nat) (a0 : Int) (a1 : Int) (a2 : LI_) (a3 : LI_) (a4 : (Int × Int)) : Option (Int × Int × Int) := runHow E call n s23 (a0, a1, a2, a3, a4) h23
theorem rr23 (call : CallFn E) (n : Nat) (a0 : Int) (a1 : Int) (a2 : LI_) (a3 : LI_) (a4 : (Int × Int)) : q23 call n a0 a1 a2 a3 a4 = r23 (g13 call) (g14 call)  a0 a1 a2 a3 a4 := by kernel_rfl
theorem gq23 (n : Nat) (a0 : Int) (a1 : Int) (a2 : LI_) (a3 : LI_) (a4 : (Int × Int)) : g23 (evalF E (n + 1)) a0 a1 a2 a3 a4 = q23 (evalF E n) n a0 a1 a2 a3 a4 := by kernel_rfl
noncomputable def q29 (call : CallFn E) (n : Nat) (a0 : Int) (a1 : LI_) : Option (Int × Int) := runHow E call n s29 (a0, a1) h29
theorem rr29 (call : CallFn E) (n : Nat) (a0 : Int) (a1 : LI_) : q29 call n a0 a1 = r29 (g70 call)  a0 a1 := by kernel_rfl
theorem gq29 (n : Nat) (a0 : Int) (a1 : LI_) : g29 (evalF E (n + 1)) a0 a1 = q29 (evalF E n) n a0 a1 := by kernel_rfl
def L31_0 : LH := ⟨[1, 3, 4, 5], ⟨[.ptr 0 0, .dat (.int .i64), .dat (.int .i64), .dat (.int .i64)], [.var (.pair (.int .i64) (.pair (.int .i64) (.pair (.int .i64) (.one (.int .i64)))))]⟩, 0⟩
noncomputable def b31_0 : Code := codeAt c31 [1, 1, 0, 1, 0, 0]
noncomputable def lq31_0 (call : CallFn E) (n m : Nat) (y : Int × Int × Int × (Int × (Int × (Int × Int)))) : Option ((Int × Int × Int × (Int × (Int × (Int × Int)))) ⊕ (Int)) := loopAt (ctxOf E call n s31 Tryz.f31 hs31) b31_0 [0, 1, 0, 1, 1] L31_0 m y
theorem lp31_0 (call : CallFn E) (n m : Nat) (y : Int × Int × Int × (Int × (Int × (Int × Int)))) : lq31_0 call n (m + 1) y = F31_0 (g71 call)  (lq31_0 call n m) y := by kernel_rfl
noncomputable def q31 (call : CallFn E) (n : Nat) (a0 : (Int × (Int × (Int × Int)))) : Option (Int) := runHow E call n s31 a0 h31
theorem rr31 (call : CallFn E) (n : Nat) (a0 : (Int × (Int × (Int × Int)))) : q31 call n a0 = r31 (g71 call) (lq31_0 call n n) a0 := by kernel_rfl
theorem gq31 (n : Nat) (a0 : (Int × (Int × (Int × Int)))) : g31 (evalF E (n + 1)) a0 = q31 (evalF E n) n a0 := by kernel_rfl
noncomputable def q32 (call : CallFn E) (n : Nat) (a0 : Int) (a1 : (Int × (Int × (Int × Int)))) (a2 : Int) : Option (Int) := runHow E call n s32 (a0, a1, a2) h32
theorem rr32 (call : CallFn E) (n : Nat) (a0 : Int) (a1 : (Int × (Int × (Int × Int)))) (a2 : Int) : q32 call n a0 a1 a2 = r32 (g72 call)  a0 a1 a2 := by kernel_rfl
theorem gq32 (n : Nat) (a0 : Int) (a1 : (Int × (Int × (Int × Int)))) (a2 : Int) : g32 (evalF E (n + 1)) a0 a1 a2 = q32 (evalF E n) n a0 a1 a2 := by kernel_rfl
def L33_0 : LH := ⟨[0, 1, 6, 7, 8, 9], ⟨[.dat (.slice (.int .i64)), .dat (.slice (.int .i64)), .dat (.slice (.slice (.int .i64))), .ref 0, .dat (.int .i64), .dat (.int .i64)], [.row (.pair (.int .i64) (.one (.int .i64)))]⟩, 0⟩
noncomputable def b33_0 : Code := codeAt c33 [1, 1, 1, 0, 1, 0, 0]
noncomputable def lq33_0 (call : CallFn E) (n m : Nat) (y : LI_ × LI_ × LL_ × Int × Int × (List (Int × Int))) : Option ((LI_ × LI_ × LL_ × Int × Int × (List (Int × Int))) ⊕ ((List (Int × Int)) × Int)) := loopAt (ctxOf E call n s33 Tryz.f33 hs33) b33_0 [0, 1, 0, 1, 1, 1] L33_0 m y
theorem lp33_0 (call : CallFn E) (n m : Nat) (y : LI_ × LI_ × LL_ × Int × Int × (List (Int × Int))) : lq33_0 call n (m + 1) y = F33_0 (g73 call)  (lq33_0 call n m) y := by kernel_rfl
noncomputable def q33 (call : CallFn E) (n : Nat) (a0 : LI_) (a1 : LI_) : Option ((List (Int × Int)) × Int) := runHow E call n s33 (a0, a1) h33
theorem rr33 (call : CallFn E) (n : Nat) (a0 : LI_) (a1 : LI_) : q33 call n a0 a1 = r33 (g73 call) (lq33_0 call n n) a0 a1 := by kernel_rfl
theorem gq33 (n : Nat) (a0 : LI_) (a1 : LI_) : g33 (evalF E (n + 1)) a0 a1 = q33 (evalF E n) n a0 a1 := by kernel_rfl
noncomputable def q42 (call : CallFn E) (n : Nat) (a0 : Int) : Option (Bool) := runHow E call n s42 a0 h42
theorem rr42 (call : CallFn E) (n : Nat) (a0 : Int) : q42 call n a0 = r42   a0 := by kernel_rfl
theorem gq42 (n : Nat) (a0 : Int) : g42 (evalF E (n + 1)) a0 = q42 (evalF E n) n a0 := by kernel_rfl
def L43_0 : LH := ⟨[0, 1, 7, 11, 12, 13], ⟨[.dat (.slice (.int .i64)), .dat (.slice (.int .i64)), .ptr 0 0, .dat (.slice (.pair (.int .i64) (.one (.int .i64)))), .dat (.int .i64), .dat (.int .i64)], [.var (.pair (.int .i64) (.one (.int .i64)))]⟩, 0⟩
noncomputable def b43_0 : Code := codeAt c43 [1, 1, 0, 1, 0, 0]
noncomputable def lq43_0 (call : CallFn E) (n m : Nat) (y : LI_ × LI_ × (List (Int × Int)) × Int × Int × (Int × Int)) : Option ((LI_ × LI_ × (List (Int × Int)) × Int × Int × (Int × Int)) ⊕ (Bool)) := loopAt (ctxOf E call n s43 Tryz.f43 hs43) b43_0 [0, 1, 0, 1, 1] L43_0 m y
theorem lp43_0 (call : CallFn E) (n m : Nat) (y : LI_ × LI_ × (List (Int × Int)) × Int × Int × (Int × Int)) : lq43_0 call n (m + 1) y = F43_0 (g97 call)  (lq43_0 call n m) y := by kernel_rfl
noncomputable def q43 (call : CallFn E) (n : Nat) (a0 : LI_) (a1 : LI_) (a2 : (List (Int × Int))) : Option (Bool) := runHow E call n s43 (a0, a1, a2) h43
theorem rr43 (call : CallFn E) (n : Nat) (a0 : LI_) (a1 : LI_) (a2 : (List (Int × Int))) : q43 call n a0 a1 a2 = r43 (g97 call) (lq43_0 call n n) a0 a1 a2 := by kernel_rfl
theorem gq43 (n : Nat) (a0 : LI_) (a1 : LI_) (a2 : (List (Int × Int))) : g43 (evalF E (n + 1)) a0 a1 a2 = q43 (evalF E n) n a0 a1 a2 := by kernel_rfl
def L44_0 : LH := ⟨[0, 1, 5, 6], ⟨[.dat (.slice (.int .i64)), .dat (.slice (.int .i64)), .ref 0, .dat (.int .i64)], [.row (.int .i64)]⟩, 0⟩
noncomputable def b44_0 : Code := codeAt c44 [1, 1, 0, 1, 0, 0]
noncomputable def lq44_0 (call : CallFn E) (n m : Nat) (y : LI_ × LI_ × Int × LI_) : Option ((LI_ × LI_ × Int × LI_) ⊕ (Int)) := loopAt (ctxOf E call n s44 Tryz.f44 hs44) b44_0 [0, 1, 0, 1, 1] L44_0 m y
def L44_1 : LH := ⟨[0, 1, 5, 6, 7, 8], ⟨[.dat (.slice (.int .i64)), .dat (.slice (.int .i64)), .ref 0, .dat (.int .i64), .dat (.int .i64), .dat (.int .i64)], [.row (.int .i64)]⟩, 2⟩
noncomputable def b44_1 : Code := codeAt c44 [1, 1, 0, 1, 0, 0, 1, 0, 0, 1, 1, 0, 0]
noncomputable def lq44_1 (call : CallFn E) (n m : Nat) (y : LI_ × LI_ × Int × Int × Int × LI_) : Option ((LI_ × LI_ × Int × Int × Int × LI_) ⊕ (Int)) := loopAt (ctxOf E call n s44 Tryz.f44 hs44) b44_1 [0, 1, 1, 0, 0, 1, 0, 0, 1, 0, 1, 1] L44_1 m y
theorem lp44_1 (call : CallFn E) (n m : Nat) (y : LI_ × LI_ × Int × Int × Int × LI_) : lq44_1 call n (m + 1) y = F44_1   (lq44_1 call n m) y := by kernel_rfl
theorem lp44_0 (call : CallFn E) (n m : Nat) (y : LI_ × LI_ × Int × LI_) : lq44_0 call n (m + 1) y = F44_0  (lq44_1 call n n) (lq44_0 call n m) y := by kernel_rfl
noncomputable def q44 (call : CallFn E) (n : Nat) (a0 : LI_) (a1 : LI_) : Option (Int) := runHow E call n s44 (a0, a1) h44
theorem rr44 (call : CallFn E) (n : Nat) (a0 : LI_) (a1 : LI_) : q44 call n a0 a1 = r44  (lq44_0 call n n) (lq44_1 call n n) a0 a1 := by kernel_rfl
theorem gq44 (n : Nat) (a0 : LI_) (a1 : LI_) : g44 (evalF E (n + 1)) a0 a1 = q44 (evalF E n) n a0 a1 := by kernel_rfl
def L45_0 : LH := ⟨[0, 1, 5, 6, 7, 8], ⟨[.dat (.slice (.int .i64)), .dat (.slice (.int .i64)), .dat (.slice (.slice (.int .i64))), .ref 0, .dat (.int .i64), .dat (.int .i64)], [.row (.pair (.int .i64) (.one (.int .i64)))]⟩, 0⟩
noncomputable def b45_0 : Code := codeAt c45 [1, 1, 1, 1, 0, 0]
noncomputable def lq45_0 (call : CallFn E) (n m : Nat) (y : LI_ × LI_ × LL_ × Int × Int × (List (Int × Int))) : Option ((LI_ × LI_ × LL_ × Int × Int × (List (Int × Int))) ⊕ ((List (Int × Int)))) := loopAt (ctxOf E call n s45 Tryz.f45 hs45) b45_0 [0, 1, 1, 1, 1] L45_0 m y
theorem lp45_0 (call : CallFn E) (n m : Nat) (y : LI_ × LI_ × LL_ × Int × Int × (List (Int × Int))) : lq45_0 call n (m + 1) y = F45_0 (g73 call) (g98 call)  (lq45_0 call n m) y := by kernel_rfl
noncomputable def q45 (call : CallFn E) (n : Nat) (a0 : LI_) (a1 : LI_) : Option ((List (Int × Int))) := runHow E call n s45 (a0, a1) h45
theorem rr45 (call : CallFn E) (n : Nat) (a0 : LI_) (a1 : LI_) : q45 call n a0 a1 = r45 (g73 call) (g98 call) (lq45_0 call n n) a0 a1 := by kernel_rfl
theorem gq45 (n : Nat) (a0 : LI_) (a1 : LI_) : g45 (evalF E (n + 1)) a0 a1 = q45 (evalF E n) n a0 a1 := by kernel_rfl
noncomputable def q46 (call : CallFn E) (n : Nat) (a0 : LL_) (a1 : LL_) : Option (LI_ × LI_ × Int) := runHow E call n s46 (a0, a1) h46
theorem rr46 (call : CallFn E) (n : Nat) (a0 : LL_) (a1 : LL_) : q46 call n a0 a1 = r46 (g99 call) (g100 call) (g101 call)  a0 a1 := by kernel_rfl
theorem gq46 (n : Nat) (a0 : LL_) (a1 : LL_) : g46 (evalF E (n + 1)) a0 a1 = q46 (evalF E n) n a0 a1 := by kernel_rfl
noncomputable def q47 (call : CallFn E) (n : Nat) (a0 : Int) (a1 : Int) (a2 : Int) (a3 : Int) (a4 : HK_) (a5 : LL_) (a6 : LL_) : Option (Int × Int × HK_ × LL_ × LL_) := runHow E call n s47 (a0, a1, a2, a3, a4, a5, a6) h47
theorem rr47 (call : CallFn E) (n : Nat) (a0 : Int) (a1 : Int) (a2 : Int) (a3 : Int) (a4 : HK_) (a5 : LL_) (a6 : LL_) : q47 call n a0 a1 a2 a3 a4 a5 a6 = r47 (g48 call)  a0 a1 a2 a3 a4 a5 a6 := by kernel_rfl
theorem gq47 (n : Nat) (a0 : Int) (a1 : Int) (a2 : Int) (a3 : Int) (a4 : HK_) (a5 : LL_) (a6 : LL_) : g47 (evalF E (n + 1)) a0 a1 a2 a3 a4 a5 a6 = q47 (evalF E n) n a0 a1 a2 a3 a4 a5 a6 := by kernel_rfl
def L48_0 : LH := ⟨[3, 6, 7, 8], ⟨[.ref 0, .dat (.slice (.slice (.int .u8))), .dat (.int .i64), .dat (.int .i64)], [.row (.slice (.int .u8))]⟩, 0⟩
noncomputable def b48_0 : Code := codeAt c48 [1, 1, 0, 1, 0, 0]
noncomputable def lq48_0 (call : CallFn E) (n m : Nat) (y : LL_ × Int × Int × LL_) : Option ((LL_ × Int × Int × LL_) ⊕ (LL_)) := loopAt (ctxOf E call n s48 Tryz.f48 hs48) b48_0 [0, 1, 0, 1, 1] L48_0 m y
theorem lp48_0 (call : CallFn E) (n m : Nat) (y : LL_ × Int × Int × LL_) : lq48_0 call n (m + 1) y = F48_0 (g102 call)  (lq48_0 call n m) y := by kernel_rfl
noncomputable def q48 (call : CallFn E) (n : Nat) (a0 : LL_) : Option (LL_) := runHow E call n s48 a0 h48
theorem rr48 (call : CallFn E) (n : Nat) (a0 : LL_) : q48 call n a0 = r48 (g102 call) (lq48_0 call n n) a0 := by kernel_rfl
theorem gq48 (n : Nat) (a0 : LL_) : g48 (evalF E (n + 1)) a0 = q48 (evalF E n) n a0 := by kernel_rfl
def L49_0 : LH := ⟨[0, 1, 6], ⟨[.dat (.int .i64), .dat (.slice (.int .u8)), .ref 0], [.row (.slice (.int .u8))]⟩, 0⟩
noncomputable def b49_0 : Code := codeAt c49 [1, 1, 1, 0, 0, 0]
noncomputable def lq49_0 (call : CallFn E) (n m : Nat) (y : Int × LI_ × LL_) : Option ((Int × LI_ × LL_) ⊕ (LL_ × Int)) := loopAt (ctxOf E call n s49 Tryz.f49 hs49) b49_0 [0, 0, 1, 1, 1] L49_0 m y
theorem lp49_0 (call : CallFn E) (n m : Nat) (y : Int × LI_ × LL_) : lq49_0 call n (m + 1) y = F49_0 (g102 call) (g103 call) (g104 call)  (lq49_0 call n m) y := by kernel_rfl
noncomputable def q49 (call : CallFn E) (n : Nat) (a0 : Int) (a1 : LI_) : Option (LL_ × Int) := runHow E call n s49 (a0, a1) h49
theorem rr49 (call : CallFn E) (n : Nat) (a0 : Int) (a1 : LI_) : q49 call n a0 a1 = r49 (g102 call) (g103 call) (g104 call) (lq49_0 call n n) a0 a1 := by kernel_rfl
theorem gq49 (n : Nat) (a0 : Int) (a1 : LI_) : g49 (evalF E (n + 1)) a0 a1 = q49 (evalF E n) n a0 a1 := by kernel_rfl
def L50_0 : LH := ⟨[0, 1, 4, 5], ⟨[.dat (.slice (.int .i64)), .dat (.slice (.int .i64)), .dat (.int .i64), .dat (.int .i64)], []⟩, 0⟩
noncomputable def b50_0 : Code := codeAt c50 [1, 0, 0, 0]
noncomputable def lq50_0 (call : CallFn E) (n m : Nat) (y : LI_ × LI_ × Int × Int) : Option ((LI_ × LI_ × Int × Int) ⊕ (Int × Int)) := loopAt (ctxOf E call n s50 Tryz.f50 hs50) b50_0 [0, 0, 1] L50_0 m y
def L50_1 : LH := ⟨[0, 1, 4, 5], ⟨[.dat (.slice (.int .i64)), .dat (.slice (.int .i64)), .dat (.int .i64), .dat (.int .i64)], []⟩, 2⟩
noncomputable def b50_1 : Code := codeAt c50 [1, 1, 1, 0, 0, 0]
noncomputable def lq50_1 (call : CallFn E) (n m : Nat) (y : LI_ × LI_ × Int × Int) : Option ((LI_ × LI_ × Int × Int) ⊕ (Int × Int)) := loopAt (ctxOf E call n s50 Tryz.f50 hs50) b50_1 [0, 0, 1, 1, 1] L50_1 m y
theorem lp50_1 (call : CallFn E) (n m : Nat) (y : LI_ × LI_ × Int × Int) : lq50_1 call n (m + 1) y = F50_1   (lq50_1 call n m) y := by kernel_rfl
theorem lp50_0 (call : CallFn E) (n m : Nat) (y : LI_ × LI_ × Int × Int) : lq50_0 call n (m + 1) y = F50_0   (lq50_0 call n m) y := by kernel_rfl
noncomputable def q50 (call : CallFn E) (n : Nat) (a0 : LI_) (a1 : LI_) : Option (Int × Int) := runHow E call n s50 (a0, a1) h50
theorem rr50 (call : CallFn E) (n : Nat) (a0 : LI_) (a1 : LI_) : q50 call n a0 a1 = r50  (lq50_0 call n n) (lq50_1 call n n) a0 a1 := by kernel_rfl
theorem gq50 (n : Nat) (a0 : LI_) (a1 : LI_) : g50 (evalF E (n + 1)) a0 a1 = q50 (evalF E n) n a0 a1 := by kernel_rfl
noncomputable def q51 (call : CallFn E) (n : Nat) (a0 : LI_) (a1 : LI_) : Option (LI_ × LI_) := runHow E call n s51 (a0, a1) h51
theorem rr51 (call : CallFn E) (n : Nat) (a0 : LI_) (a1 : LI_) : q51 call n a0 a1 = r51 (g50 call) (g105 call)  a0 a1 := by kernel_rfl
theorem gq51 (n : Nat) (a0 : LI_) (a1 : LI_) : g51 (evalF E (n + 1)) a0 a1 = q51 (evalF E n) n a0 a1 := by kernel_rfl
noncomputable def q52 (call : CallFn E) (n : Nat) (a0 : Int) (a1 : Int) (a2 : Int) : Option (Int × Int × Bool) := runHow E call n s52 (a0, a1, a2) h52
theorem rr52 (call : CallFn E) (n : Nat) (a0 : Int) (a1 : Int) (a2 : Int) : q52 call n a0 a1 a2 = r52   a0 a1 a2 := by kernel_rfl
theorem gq52 (n : Nat) (a0 : Int) (a1 : Int) (a2 : Int) : g52 (evalF E (n + 1)) a0 a1 a2 = q52 (evalF E n) n a0 a1 a2 := by kernel_rfl
noncomputable def q54 (call : CallFn E) (n : Nat) (a0 : (Int × LI_)) (a1 : Int) : Option (Int) := runHow E call n s54 (a0, a1) h54
theorem rr54 (call : CallFn E) (n : Nat) (a0 : (Int × LI_)) (a1 : Int) : q54 call n a0 a1 = r54   a0 a1 := by kernel_rfl
theorem gq54 (n : Nat) (a0 : (Int × LI_)) (a1 : Int) : g54 (evalF E (n + 1)) a0 a1 = q54 (evalF E n) n a0 a1 := by kernel_rfl
def L55_0 : LH := ⟨[0, 1, 8, 10, 11], ⟨[.dat (.int .i64), .dat (.int .i64), .dat (.int .i64), .dat (.int .i64), .dat (.int .i64)], []⟩, 0⟩
noncomputable def b55_0 : Code := codeAt c55 [1, 1, 1, 1, 1, 0, 1, 0, 0]
noncomputable def lq55_0 (call : CallFn E) (n m : Nat) (y : Int × Int × Int × Int × Int) : Option ((Int × Int × Int × Int × Int) ⊕ (Int)) := loopAt (ctxOf E call n s55 Tryz.f55 hs55) b55_0 [0, 1, 0, 1, 1, 1, 1, 1] L55_0 m y
theorem lp55_0 (call : CallFn E) (n m : Nat) (y : Int × Int × Int × Int × Int) : lq55_0 call n (m + 1) y = F55_0 (g52 call) (g106 call)  (lq55_0 call n m) y := by kernel_rfl
noncomputable def q55 (call : CallFn E) (n : Nat) (a0 : Int) (a1 : Int) (a2 : Int) : Option (Int) := runHow E call n s55 (a0, a1, a2) h55
theorem rr55 (call : CallFn E) (n : Nat) (a0 : Int) (a1 : Int) (a2 : Int) : q55 call n a0 a1 a2 = r55 (g52 call) (g106 call) (lq55_0 call n n) a0 a1 a2 := by kernel_rfl
theorem gq55 (n : Nat) (a0 : Int) (a1 : Int) (a2 : Int) : g55 (evalF E (n + 1)) a0 a1 a2 = q55 (evalF E n) n a0 a1 a2 := by kernel_rfl
def L56_0 : LH := ⟨[0, 5, 6, 7], ⟨[.ptr 0 0, .dat (.slice (.int .i64)), .dat (.int .i64), .dat (.int .i64)], [.var (.pair (.slice (.int .u8)) (.pair (.int .i64) (.one (.int .i64))))]⟩, 0⟩
noncomputable def b56_0 : Code := codeAt c56 [1, 0, 1, 0, 0]
noncomputable def lq56_0 (call : CallFn E) (n m : Nat) (y : LI_ × Int × Int × (LI_ × (Int × Int))) : Option ((LI_ × Int × Int × (LI_ × (Int × Int))) ⊕ (Bool × (LI_ × (Int × Int)))) := loopAt (ctxOf E call n s56 Tryz.f56 hs56) b56_0 [0, 1, 0, 1] L56_0 m y
theorem lp56_0 (call : CallFn E) (n m : Nat) (y : LI_ × Int × Int × (LI_ × (Int × Int))) : lq56_0 call n (m + 1) y = F56_0 (g59 call) (g107 call)  (lq56_0 call n m) y := by kernel_rfl
noncomputable def q56 (call : CallFn E) (n : Nat) (a0 : (LI_ × (Int × Int))) : Option (Bool × (LI_ × (Int × Int))) := runHow E call n s56 a0 h56
theorem rr56 (call : CallFn E) (n : Nat) (a0 : (LI_ × (Int × Int))) : q56 call n a0 = r56 (g59 call) (g107 call) (lq56_0 call n n) a0 := by kernel_rfl
theorem gq56 (n : Nat) (a0 : (LI_ × (Int × Int))) : g56 (evalF E (n + 1)) a0 = q56 (evalF E n) n a0 := by kernel_rfl
noncomputable def q57 (call : CallFn E) (n : Nat) (a0 : (LI_ × (Int × Int))) : Option (Int × Int × Int × Bool × (LI_ × (Int × Int))) := runHow E call n s57 a0 h57
theorem rr57 (call : CallFn E) (n : Nat) (a0 : (LI_ × (Int × Int))) : q57 call n a0 = r57 (g59 call) (g108 call)  a0 := by kernel_rfl
theorem gq57 (n : Nat) (a0 : (LI_ × (Int × Int))) : g57 (evalF E (n + 1)) a0 = q57 (evalF E n) n a0 := by kernel_rfl
def L58_0 : LH := ⟨[0, 4, 10, 11], ⟨[.ptr 0 0, .ref 1, .dat (.int .i64), .dat (.int .i64)], [.var (.pair (.slice (.int .u8)) (.pair (.int .i64) (.one (.int .i64)))), .row (.slice (.int .u8))]⟩, 0⟩
noncomputable def b58_0 : Code := codeAt c58 [1, 0, 1, 0, 0]
noncomputable def lq58_0 (call : CallFn E) (n m : Nat) (y : Int × Int × (LI_ × (Int × Int)) × LL_) : Option ((Int × Int × (LI_ × (Int × Int)) × LL_) ⊕ (LL_ × Int × Bool × (LI_ × (Int × Int)))) := loopAt (ctxOf E call n s58 Tryz.f58 hs58) b58_0 [0, 1, 0, 1] L58_0 m y
theorem lp58_0 (call : CallFn E) (n m : Nat) (y : Int × Int × (LI_ × (Int × Int)) × LL_) : lq58_0 call n (m + 1) y = F58_0 (g109 call)  (lq58_0 call n m) y := by kernel_rfl
noncomputable def q58 (call : CallFn E) (n : Nat) (a0 : Int) (a1 : (LI_ × (Int × Int))) : Option (LL_ × Int × Bool × (LI_ × (Int × Int))) := runHow E call n s58 (a0, a1) h58
theorem rr58 (call : CallFn E) (n : Nat) (a0 : Int) (a1 : (LI_ × (Int × Int))) : q58 call n a0 a1 = r58 (g109 call) (lq58_0 call n n) a0 a1 := by kernel_rfl
theorem gq58 (n : Nat) (a0 : Int) (a1 : (LI_ × (Int × Int))) : g58 (evalF E (n + 1)) a0 a1 = q58 (evalF E n) n a0 a1 := by kernel_rfl
noncomputable def q59 (call : CallFn E) (n : Nat) (a0 : ByteArray) (a1 : (LI_ × (Int × Int))) : Option (Bool × (LI_ × (Int × Int))) := runHow E call n s59 (a0, a1) h59
theorem rr59 (call : CallFn E) (n : Nat) (a0 : ByteArray) (a1 : (LI_ × (Int × Int))) : q59 call n a0 a1 = r59 (g110 call)  a0 a1 := by kernel_rfl
theorem gq59 (n : Nat) (a0 : ByteArray) (a1 : (LI_ × (Int × Int))) : g59 (evalF E (n + 1)) a0 a1 = q59 (evalF E n) n a0 a1 := by kernel_rfl
def L60_0 : LH := ⟨[1, 6, 7, 13, 14, 15], ⟨[.dat (.slice (.slice (.int .u8))), .ref 0, .dat (.int .i64), .dat (.slice (.pair (.int .i64) (.pair (.slice (.slice (.int .u8))) (.one (.slice (.slice (.int .u8))))))), .dat (.int .i64), .dat (.int .i64)], [.row (.slice (.int .u8))]⟩, 0⟩
noncomputable def b60_0 : Code := codeAt c60 [1, 1, 1, 1, 0, 1, 0, 0]
noncomputable def lq60_0 (call : CallFn E) (n m : Nat) (y : LL_ × Int × HK_ × Int × Int × LL_) : Option ((LL_ × Int × HK_ × Int × Int × LL_) ⊕ (LL_ × Int)) := loopAt (ctxOf E call n s60 Tryz.f60 hs60) b60_0 [0, 1, 0, 1, 1, 1, 1] L60_0 m y
theorem lp60_0 (call : CallFn E) (n m : Nat) (y : LL_ × Int × HK_ × Int × Int × LL_) : lq60_0 call n (m + 1) y = F60_0 (g62 call) (g63 call) (g111 call)  (lq60_0 call n m) y := by kernel_rfl
noncomputable def q60 (call : CallFn E) (n : Nat) (a0 : HK_) (a1 : LL_) : Option (LL_ × Int) := runHow E call n s60 (a0, a1) h60
theorem rr60 (call : CallFn E) (n : Nat) (a0 : HK_) (a1 : LL_) : q60 call n a0 a1 = r60 (g62 call) (g63 call) (g111 call) (lq60_0 call n n) a0 a1 := by kernel_rfl
theorem gq60 (n : Nat) (a0 : HK_) (a1 : LL_) : g60 (evalF E (n + 1)) a0 a1 = q60 (evalF E n) n a0 a1 := by kernel_rfl
def L61_0 : LH := ⟨[3, 6, 7, 8], ⟨[.ref 0, .dat (.slice (.slice (.int .u8))), .dat (.int .i64), .dat (.int .i64)], [.row (.int .u8)]⟩, 0⟩
noncomputable def b61_0 : Code := codeAt c61 [1, 1, 0, 1, 0, 0]
noncomputable def lq61_0 (call : CallFn E) (n m : Nat) (y : LL_ × Int × Int × LI_) : Option ((LL_ × Int × Int × LI_) ⊕ (LI_)) := loopAt (ctxOf E call n s61 Tryz.f61 hs61) b61_0 [0, 1, 0, 1, 1] L61_0 m y
theorem lp61_0 (call : CallFn E) (n m : Nat) (y : LL_ × Int × Int × LI_) : lq61_0 call n (m + 1) y = F61_0   (lq61_0 call n m) y := by kernel_rfl
noncomputable def q61 (call : CallFn E) (n : Nat) (a0 : LL_) : Option (LI_) := runHow E call n s61 a0 h61
theorem rr61 (call : CallFn E) (n : Nat) (a0 : LL_) : q61 call n a0 = r61  (lq61_0 call n n) a0 := by kernel_rfl
theorem gq61 (n : Nat) (a0 : LL_) : g61 (evalF E (n + 1)) a0 = q61 (evalF E n) n a0 := by kernel_rfl
def L62_0 : LH := ⟨[3, 6, 7, 8], ⟨[.dat (.int .i64), .dat (.slice (.pair (.int .i64) (.pair (.slice (.slice (.int .u8))) (.one (.slice (.slice (.int .u8))))))), .dat (.int .i64), .dat (.int .i64)], []⟩, 0⟩
noncomputable def b62_0 : Code := codeAt c62 [1, 1, 0, 1, 0, 0]
noncomputable def lq62_0 (call : CallFn E) (n m : Nat) (y : Int × HK_ × Int × Int) : Option ((Int × HK_ × Int × Int) ⊕ (Bool)) := loopAt (ctxOf E call n s62 Tryz.f62 hs62) b62_0 [0, 1, 0, 1, 1] L62_0 m y
theorem lp62_0 (call : CallFn E) (n m : Nat) (y : Int × HK_ × Int × Int) : lq62_0 call n (m + 1) y = F62_0 (g112 call)  (lq62_0 call n m) y := by kernel_rfl
noncomputable def q62 (call : CallFn E) (n : Nat) (a0 : HK_) : Option (Bool) := runHow E call n s62 a0 h62
theorem rr62 (call : CallFn E) (n : Nat) (a0 : HK_) : q62 call n a0 = r62 (g112 call) (lq62_0 call n n) a0 := by kernel_rfl
theorem gq62 (n : Nat) (a0 : HK_) : g62 (evalF E (n + 1)) a0 = q62 (evalF E n) n a0 := by kernel_rfl
def L63_0 : LH := ⟨[0, 7, 8, 9], ⟨[.ref 1, .dat (.slice (.slice (.int .u8))), .dat (.int .i64), .dat (.int .i64)], [.dead, .row (.slice (.int .u8))]⟩, 0⟩
noncomputable def b63_0 : Code := codeAt c63 [1, 0, 1, 0, 0]
noncomputable def lq63_0 (call : CallFn E) (n m : Nat) (y : LL_ × Int × Int × LL_) : Option ((LL_ × Int × Int × LL_) ⊕ (LL_)) := loopAt (ctxOf E call n s63 Tryz.f63 hs63) b63_0 [0, 1, 0, 1] L63_0 m y
theorem lp63_0 (call : CallFn E) (n m : Nat) (y : LL_ × Int × Int × LL_) : lq63_0 call n (m + 1) y = F63_0 (g102 call)  (lq63_0 call n m) y := by kernel_rfl
noncomputable def q63 (call : CallFn E) (n : Nat) (a0 : LL_) (a1 : LL_) : Option (LL_) := runHow E call n s63 (a0, a1) h63
theorem rr63 (call : CallFn E) (n : Nat) (a0 : LL_) (a1 : LL_) : q63 call n a0 a1 = r63 (g102 call) (lq63_0 call n n) a0 a1 := by kernel_rfl
theorem gq63 (n : Nat) (a0 : LL_) (a1 : LL_) : g63 (evalF E (n + 1)) a0 a1 = q63 (evalF E n) n a0 a1 := by kernel_rfl
def L70_0 : LH := ⟨[0, 1, 5], ⟨[.dat (.slice (.int .u8)), .dat (.slice (.int .u8)), .dat (.int .i64)], []⟩, 0⟩
noncomputable def b70_0 : Code := codeAt c70 [1, 1, 1, 1, 0, 0]
noncomputable def lq70_0 (call : CallFn E) (n m : Nat) (y : LI_ × LI_ × Int) : Option ((LI_ × LI_ × Int) ⊕ (Int)) := loopAt (ctxOf E call n s70 Tryz.f70 hs70) b70_0 [0, 1, 1, 1, 1] L70_0 m y
theorem lp70_0 (call : CallFn E) (n m : Nat) (y : LI_ × LI_ × Int) : lq70_0 call n (m + 1) y = F70_0 (g115 call) (g116 call) (g117 call)  (lq70_0 call n m) y := by kernel_rfl
noncomputable def q70 (call : CallFn E) (n : Nat) (a0 : LI_) (a1 : LI_) : Option (Int) := runHow E call n s70 (a0, a1) h70
theorem rr70 (call : CallFn E) (n : Nat) (a0 : LI_) (a1 : LI_) : q70 call n a0 a1 = r70 (g115 call) (g116 call) (g117 call) (lq70_0 call n n) a0 a1 := by kernel_rfl
theorem gq70 (n : Nat) (a0 : LI_) (a1 : LI_) : g70 (evalF E (n + 1)) a0 a1 = q70 (evalF E n) n a0 a1 := by kernel_rfl
noncomputable def q71 (call : CallFn E) (n : Nat) (a0 : Int) (a1 : (Int × (Int × (Int × Int)))) : Option (Int × Int) := runHow E call n s71 (a0, a1) h71
theorem rr71 (call : CallFn E) (n : Nat) (a0 : Int) (a1 : (Int × (Int × (Int × Int)))) : q71 call n a0 a1 = r71 (g118 call) (g119 call) (g120 call)  a0 a1 := by kernel_rfl
theorem gq71 (n : Nat) (a0 : Int) (a1 : (Int × (Int × (Int × Int)))) : g71 (evalF E (n + 1)) a0 a1 = q71 (evalF E n) n a0 a1 := by kernel_rfl
noncomputable def q72 (call : CallFn E) (n : Nat) (a0 : Int) (a1 : (Int × (Int × (Int × Int)))) : Option (Int × Int) := runHow E call n s72 (a0, a1) h72
theorem rr72 (call : CallFn E) (n : Nat) (a0 : Int) (a1 : (Int × (Int × (Int × Int)))) : q72 call n a0 a1 = r72 (g118 call) (g119 call)  a0 a1 := by kernel_rfl
theorem gq72 (n : Nat) (a0 : Int) (a1 : (Int × (Int × (Int × Int)))) : g72 (evalF E (n + 1)) a0 a1 = q72 (evalF E n) n a0 a1 := by kernel_rfl
noncomputable def q97 (call : CallFn E) (n : Nat) (a0 : LI_) (a1 : Int) : Option (Bool) := runHow E call n s97 (a0, a1) h97
theorem rr97 (call : CallFn E) (n : Nat) (a0 : LI_) (a1 : Int) : q97 call n a0 a1 = r97   a0 a1 := by kernel_rfl
theorem gq97 (n : Nat) (a0 : LI_) (a1 : Int) : g97 (evalF E (n + 1)) a0 a1 = q97 (evalF E n) n a0 a1 := by kernel_rfl
def L98_0 : LH := ⟨[0, 1, 2, 4, 10, 12, 13, 14], ⟨[.dat (.slice (.slice (.int .i64))), .dat (.slice (.int .i64)), .dat (.slice (.int .i64)), .dat (.int .i64), .ptr 0 0, .dat (.int .i64), .dat (.int .i64), .dat (.int .i64)], [.var (.pair (.int .i64) (.one (.int .i64)))]⟩, 2⟩
noncomputable def b98_0 : Code := codeAt c98 [1, 1, 1, 0, 1, 0, 0, 1, 0, 0, 1, 0, 0]
noncomputable def lq98_0 (call : CallFn E) (n m : Nat) (y : LL_ × LI_ × LI_ × Int × Int × Int × Int × (Int × Int)) : Option ((LL_ × LI_ × LI_ × Int × Int × Int × Int × (Int × Int)) ⊕ ((Int × Int) × Bool)) := loopAt (ctxOf E call n s98 Tryz.f98 hs98) b98_0 [0, 1, 0, 0, 1, 0, 0, 1, 0, 1, 1, 1] L98_0 m y
def L98_1 : LH := ⟨[0, 1, 2, 4, 10, 12, 13], ⟨[.dat (.slice (.slice (.int .i64))), .dat (.slice (.int .i64)), .dat (.slice (.int .i64)), .dat (.int .i64), .ptr 0 0, .dat (.int .i64), .dat (.int .i64)], [.var (.pair (.int .i64) (.one (.int .i64)))]⟩, 0⟩
noncomputable def b98_1 : Code := codeAt c98 [1, 1, 1, 0, 1, 0, 0]
noncomputable def lq98_1 (call : CallFn E) (n m : Nat) (y : LL_ × LI_ × LI_ × Int × Int × Int × (Int × Int)) : Option ((LL_ × LI_ × LI_ × Int × Int × Int × (Int × Int)) ⊕ ((Int × Int) × Bool)) := loopAt (ctxOf E call n s98 Tryz.f98 hs98) b98_1 [0, 1, 0, 1, 1, 1] L98_1 m y
theorem lp98_0 (call : CallFn E) (n m : Nat) (y : LL_ × LI_ × LI_ × Int × Int × Int × Int × (Int × Int)) : lq98_0 call n (m + 1) y = F98_0   (lq98_0 call n m) y := by kernel_rfl
theorem lp98_1 (call : CallFn E) (n m : Nat) (y : LL_ × LI_ × LI_ × Int × Int × Int × (Int × Int)) : lq98_1 call n (m + 1) y = F98_1  (lq98_0 call n n) (lq98_1 call n m) y := by kernel_rfl
noncomputable def q98 (call : CallFn E) (n : Nat) (a0 : LL_) (a1 : LI_) (a2 : LI_) (a3 : Int) (a4 : Int) : Option ((Int × Int) × Bool) := runHow E call n s98 (a0, a1, a2, a3, a4) h98
theorem rr98 (call : CallFn E) (n : Nat) (a0 : LL_) (a1 : LI_) (a2 : LI_) (a3 : Int) (a4 : Int) : q98 call n a0 a1 a2 a3 a4 = r98  (lq98_0 call n n) (lq98_1 call n n) a0 a1 a2 a3 a4 := by kernel_rfl
theorem gq98 (n : Nat) (a0 : LL_) (a1 : LI_) (a2 : LI_) (a3 : Int) (a4 : Int) : g98 (evalF E (n + 1)) a0 a1 a2 a3 a4 = q98 (evalF E n) n a0 a1 a2 a3 a4 := by kernel_rfl
def L99_0 : LH := ⟨[4, 16, 17, 18], ⟨[.ref 0, .ref 1, .dat (.int .i64), .dat (.int .i64)], [.row (.slice (.int .u8)), .row (.slice (.int .u8))]⟩, 0⟩
noncomputable def b99_0 : Code := codeAt c99 [1, 1, 1, 1, 1, 0, 1, 0, 0]
noncomputable def lq99_0 (call : CallFn E) (n m : Nat) (y : Int × Int × LL_ × LL_) : Option ((Int × Int × LL_ × LL_) ⊕ (LL_)) := loopAt (ctxOf E call n s99 Tryz.f99 hs99) b99_0 [0, 1, 0, 1, 1, 1, 1, 1] L99_0 m y
theorem lp99_0 (call : CallFn E) (n m : Nat) (y : Int × Int × LL_ × LL_) : lq99_0 call n (m + 1) y = F99_0 (g102 call) (g141 call) (g142 call) (g144 call)  (lq99_0 call n m) y := by kernel_rfl
noncomputable def q99 (call : CallFn E) (n : Nat) (a0 : LL_) : Option (LL_) := runHow E call n s99 a0 h99
theorem rr99 (call : CallFn E) (n : Nat) (a0 : LL_) : q99 call n a0 = r99 (g102 call) (g141 call) (g142 call) (g144 call) (lq99_0 call n n) a0 := by kernel_rfl
theorem gq99 (n : Nat) (a0 : LL_) : g99 (evalF E (n + 1)) a0 = q99 (evalF E n) n a0 := by kernel_rfl
def L100_0 : LH := ⟨[0, 3, 9, 10, 11], ⟨[.dat (.slice (.slice (.slice (.int .u8)))), .dat (.int .i64), .dat (.slice (.slice (.slice (.int .u8)))), .dat (.int .i64), .dat (.int .i64)], []⟩, 0⟩
noncomputable def b100_0 : Code := codeAt c100 [1, 1, 0, 1, 0, 0]
noncomputable def lq100_0 (call : CallFn E) (n m : Nat) (y : (List LL_) × Int × (List LL_) × Int × Int) : Option (((List LL_) × Int × (List LL_) × Int × Int) ⊕ (LL_)) := loopAt (ctxOf E call n s100 Tryz.f100 hs100) b100_0 [0, 1, 0, 1, 1] L100_0 m y
def L100_1 : LH := ⟨[6, 25, 26, 27], ⟨[.ref 0, .dat (.slice (.slice (.slice (.int .u8)))), .dat (.int .i64), .dat (.int .i64)], [.row (.slice (.int .u8))]⟩, 2⟩
noncomputable def b100_1 : Code := codeAt c100 [1, 1, 1, 1, 0, 1, 0, 0]
noncomputable def lq100_1 (call : CallFn E) (n m : Nat) (y : (List LL_) × Int × Int × LL_) : Option (((List LL_) × Int × Int × LL_) ⊕ (LL_)) := loopAt (ctxOf E call n s100 Tryz.f100 hs100) b100_1 [0, 1, 0, 1, 1, 1, 1] L100_1 m y
theorem lp100_1 (call : CallFn E) (n m : Nat) (y : (List LL_) × Int × Int × LL_) : lq100_1 call n (m + 1) y = F100_1 (g146 call)  (lq100_1 call n m) y := by kernel_rfl
theorem lp100_0 (call : CallFn E) (n m : Nat) (y : (List LL_) × Int × (List LL_) × Int × Int) : lq100_0 call n (m + 1) y = F100_0 (g146 call)  (lq100_0 call n m) y := by kernel_rfl
noncomputable def q100 (call : CallFn E) (n : Nat) (a0 : (List LL_)) : Option (LL_) := runHow E call n s100 a0 h100
theorem rr100 (call : CallFn E) (n : Nat) (a0 : (List LL_)) : q100 call n a0 = r100 (g146 call) (lq100_0 call n n) (lq100_1 call n n) a0 := by kernel_rfl
theorem gq100 (n : Nat) (a0 : (List LL_)) : g100 (evalF E (n + 1)) a0 = q100 (evalF E n) n a0 := by kernel_rfl
def L101_0 : LH := ⟨[0, 6, 14, 15, 16], ⟨[.dat (.slice (.slice (.int .u8))), .ref 0, .dat (.slice (.slice (.int .u8))), .dat (.int .i64), .dat (.int .i64)], [.row (.int .i64)]⟩, 0⟩
noncomputable def b101_0 : Code := codeAt c101 [1, 1, 0, 1, 0, 0]
noncomputable def lq101_0 (call : CallFn E) (n m : Nat) (y : LL_ × LL_ × Int × Int × LI_) : Option ((LL_ × LL_ × Int × Int × LI_) ⊕ (LI_ × Bool)) := loopAt (ctxOf E call n s101 Tryz.f101 hs101) b101_0 [0, 1, 0, 1, 1] L101_0 m y
theorem lp101_0 (call : CallFn E) (n m : Nat) (y : LL_ × LL_ × Int × Int × LI_) : lq101_0 call n (m + 1) y = F101_0 (g147 call)  (lq101_0 call n m) y := by kernel_rfl
noncomputable def q101 (call : CallFn E) (n : Nat) (a0 : LL_) (a1 : LL_) : Option (LI_ × Bool) := runHow E call n s101 (a0, a1) h101
theorem rr101 (call : CallFn E) (n : Nat) (a0 : LL_) (a1 : LL_) : q101 call n a0 a1 = r101 (g147 call) (lq101_0 call n n) a0 a1 := by kernel_rfl
theorem gq101 (n : Nat) (a0 : LL_) (a1 : LL_) : g101 (evalF E (n + 1)) a0 a1 = q101 (evalF E n) n a0 a1 := by kernel_rfl
noncomputable def q103 (call : CallFn E) (n : Nat) (a0 : Int) : Option (Bool) := runHow E call n s103 a0 h103
theorem rr103 (call : CallFn E) (n : Nat) (a0 : Int) : q103 call n a0 = r103   a0 := by kernel_rfl
theorem gq103 (n : Nat) (a0 : Int) : g103 (evalF E (n + 1)) a0 = q103 (evalF E n) n a0 := by kernel_rfl
noncomputable def q104 (call : CallFn E) (n : Nat) (a0 : LI_) (a1 : Int) : Option (Int) := runHow E call n s104 (a0, a1) h104
theorem rr104 (call : CallFn E) (n : Nat) (a0 : LI_) (a1 : Int) : q104 call n a0 a1 = r104 (g148 call)  a0 a1 := by kernel_rfl
theorem gq104 (n : Nat) (a0 : LI_) (a1 : Int) : g104 (evalF E (n + 1)) a0 a1 = q104 (evalF E n) n a0 a1 := by kernel_rfl
noncomputable def q106 (call : CallFn E) (n : Nat) (a0 : Int) : Option (Bool) := runHow E call n s106 a0 h106
theorem rr106 (call : CallFn E) (n : Nat) (a0 : Int) : q106 call n a0 = r106   a0 := by kernel_rfl
theorem gq106 (n : Nat) (a0 : Int) : g106 (evalF E (n + 1)) a0 = q106 (evalF E n) n a0 := by kernel_rfl
noncomputable def q107 (call : CallFn E) (n : Nat) (a0 : Int) : Option (ByteArray) := runHow E call n s107 a0 h107
theorem rr107 (call : CallFn E) (n : Nat) (a0 : Int) : q107 call n a0 = r107   a0 := by kernel_rfl
theorem gq107 (n : Nat) (a0 : Int) : g107 (evalF E (n + 1)) a0 = q107 (evalF E n) n a0 := by kernel_rfl
def L108_0 : LH := ⟨[0, 4, 5], ⟨[.ptr 0 0, .dat (.int .i64), .dat (.int .i64)], [.var (.pair (.slice (.int .u8)) (.pair (.int .i64) (.one (.int .i64))))]⟩, 0⟩
noncomputable def b108_0 : Code := codeAt c108 [1, 1, 0, 0, 0]
noncomputable def lq108_0 (call : CallFn E) (n m : Nat) (y : Int × Int × (LI_ × (Int × Int))) : Option ((Int × Int × (LI_ × (Int × Int))) ⊕ (Int × Bool × (LI_ × (Int × Int)))) := loopAt (ctxOf E call n s108 Tryz.f108 hs108) b108_0 [0, 0, 1, 1] L108_0 m y
theorem lp108_0 (call : CallFn E) (n m : Nat) (y : Int × Int × (LI_ × (Int × Int))) : lq108_0 call n (m + 1) y = F108_0   (lq108_0 call n m) y := by kernel_rfl
noncomputable def q108 (call : CallFn E) (n : Nat) (a0 : (LI_ × (Int × Int))) : Option (Int × Bool × (LI_ × (Int × Int))) := runHow E call n s108 a0 h108
theorem rr108 (call : CallFn E) (n : Nat) (a0 : (LI_ × (Int × Int))) : q108 call n a0 = r108  (lq108_0 call n n) a0 := by kernel_rfl
theorem gq108 (n : Nat) (a0 : (LI_ × (Int × Int))) : g108 (evalF E (n + 1)) a0 = q108 (evalF E n) n a0 := by kernel_rfl
noncomputable def q109 (call : CallFn E) (n : Nat) (a0 : (LI_ × (Int × Int))) : Option (LI_ × Bool × (LI_ × (Int × Int))) := runHow E call n s109 a0 h109
theorem rr109 (call : CallFn E) (n : Nat) (a0 : (LI_ × (Int × Int))) : q109 call n a0 = r109 (g59 call) (g102 call) (g108 call) (g149 call)  a0 := by kernel_rfl
theorem gq109 (n : Nat) (a0 : (LI_ × (Int × Int))) : g109 (evalF E (n + 1)) a0 = q109 (evalF E n) n a0 := by kernel_rfl
noncomputable def q110 (call : CallFn E) (n : Nat) (a0 : LI_) (a1 : LI_) : Option (Bool) := runHow E call n s110 (a0, a1) h110
theorem rr110 (call : CallFn E) (n : Nat) (a0 : LI_) (a1 : LI_) : q110 call n a0 a1 = r110 (g145 call)  a0 a1 := by kernel_rfl
theorem gq110 (n : Nat) (a0 : LI_) (a1 : LI_) : g110 (evalF E (n + 1)) a0 a1 = q110 (evalF E n) n a0 a1 := by kernel_rfl
noncomputable def q111 (call : CallFn E) (n : Nat) (a0 : LL_) (a1 : LL_) (a2 : Int) : Option (Bool) := runHow E call n s111 (a0, a1, a2) h111
theorem rr111 (call : CallFn E) (n : Nat) (a0 : LL_) (a1 : LL_) (a2 : Int) : q111 call n a0 a1 a2 = r111 (g150 call)  a0 a1 a2 := by kernel_rfl
theorem gq111 (n : Nat) (a0 : LL_) (a1 : LL_) (a2 : Int) : g111 (evalF E (n + 1)) a0 a1 a2 = q111 (evalF E n) n a0 a1 a2 := by kernel_rfl
def L112_0 : LH := ⟨[5, 6, 7], ⟨[.dat (.slice (.slice (.int .u8))), .dat (.int .i64), .dat (.int .i64)], []⟩, 0⟩
noncomputable def b112_0 : Code := codeAt c112 [1, 0, 1, 0, 0]
noncomputable def lq112_0 (call : CallFn E) (n m : Nat) (y : LL_ × Int × Int) : Option ((LL_ × Int × Int) ⊕ (Bool)) := loopAt (ctxOf E call n s112 Tryz.f112 hs112) b112_0 [0, 1, 0, 1] L112_0 m y
theorem lp112_0 (call : CallFn E) (n m : Nat) (y : LL_ × Int × Int) : lq112_0 call n (m + 1) y = F112_0   (lq112_0 call n m) y := by kernel_rfl
noncomputable def q112 (call : CallFn E) (n : Nat) (a0 : LL_) : Option (Bool) := runHow E call n s112 a0 h112
theorem rr112 (call : CallFn E) (n : Nat) (a0 : LL_) : q112 call n a0 = r112  (lq112_0 call n n) a0 := by kernel_rfl
theorem gq112 (n : Nat) (a0 : LL_) : g112 (evalF E (n + 1)) a0 = q112 (evalF E n) n a0 := by kernel_rfl
def L115_0 : LH := ⟨[0, 3, 4], ⟨[.dat (.slice (.int .u8)), .dat (.int .i64), .dat (.int .i64)], []⟩, 0⟩
noncomputable def b115_0 : Code := codeAt c115 [1, 1, 1, 0, 0, 0]
noncomputable def lq115_0 (call : CallFn E) (n m : Nat) (y : LI_ × Int × Int) : Option ((LI_ × Int × Int) ⊕ (Int)) := loopAt (ctxOf E call n s115 Tryz.f115 hs115) b115_0 [0, 0, 1, 1, 1] L115_0 m y
theorem lp115_0 (call : CallFn E) (n m : Nat) (y : LI_ × Int × Int) : lq115_0 call n (m + 1) y = F115_0 (g151 call)  (lq115_0 call n m) y := by kernel_rfl
noncomputable def q115 (call : CallFn E) (n : Nat) (a0 : LI_) : Option (Int) := runHow E call n s115 a0 h115
theorem rr115 (call : CallFn E) (n : Nat) (a0 : LI_) : q115 call n a0 = r115 (g151 call) (lq115_0 call n n) a0 := by kernel_rfl
theorem gq115 (n : Nat) (a0 : LI_) : g115 (evalF E (n + 1)) a0 = q115 (evalF E n) n a0 := by kernel_rfl
noncomputable def q117 (call : CallFn E) (n : Nat) (a0 : LI_) (a1 : LI_) : Option (Int) := runHow E call n s117 (a0, a1) h117
theorem rr117 (call : CallFn E) (n : Nat) (a0 : LI_) (a1 : LI_) : q117 call n a0 a1 = r117 (g104 call) (g145 call)  a0 a1 := by kernel_rfl
theorem gq117 (n : Nat) (a0 : LI_) (a1 : LI_) : g117 (evalF E (n + 1)) a0 a1 = q117 (evalF E n) n a0 a1 := by kernel_rfl
noncomputable def q118 (call : CallFn E) (n : Nat) (a0 : Int) (a1 : (Int × (Int × (Int × Int)))) : Option (Bool) := runHow E call n s118 (a0, a1) h118
theorem rr118 (call : CallFn E) (n : Nat) (a0 : Int) (a1 : (Int × (Int × (Int × Int)))) : q118 call n a0 a1 = r118 (g155 call)  a0 a1 := by kernel_rfl
theorem gq118 (n : Nat) (a0 : Int) (a1 : (Int × (Int × (Int × Int)))) : g118 (evalF E (n + 1)) a0 a1 = q118 (evalF E n) n a0 a1 := by kernel_rfl
noncomputable def q119 (call : CallFn E) (n : Nat) (a0 : Int) (a1 : Int) : Option (Int) := runHow E call n s119 (a0, a1) h119
theorem rr119 (call : CallFn E) (n : Nat) (a0 : Int) (a1 : Int) : q119 call n a0 a1 = r119   a0 a1 := by kernel_rfl
theorem gq119 (n : Nat) (a0 : Int) (a1 : Int) : g119 (evalF E (n + 1)) a0 a1 = q119 (evalF E n) n a0 a1 := by kernel_rfl
noncomputable def q120 (call : CallFn E) (n : Nat) (a0 : Int) : Option (Int) := runHow E call n s120 a0 h120
theorem rr120 (call : CallFn E) (n : Nat) (a0 : Int) : q120 call n a0 = r120 (g156 call)  a0 := by kernel_rfl
theorem gq120 (n : Nat) (a0 : Int) : g120 (evalF E (n + 1)) a0 = q120 (evalF E n) n a0 := by kernel_rfl
noncomputable def q143 (call : CallFn E) (n : Nat) (a0 : LI_) (a1 : LI_) : Option (Int) := runHow E call n s143 (a0, a1) h143
theorem rr143 (call : CallFn E) (n : Nat) (a0 : LI_) (a1 : LI_) : q143 call n a0 a1 = r143 (g175 call)  a0 a1 := by kernel_rfl
theorem gq143 (n : Nat) (a0 : LI_) (a1 : LI_) : g143 (evalF E (n + 1)) a0 a1 = q143 (evalF E n) n a0 a1 := by kernel_rfl
noncomputable def q145 (call : CallFn E) (n : Nat) (a0 : LI_) (a1 : LI_) : Option (Bool) := runHow E call n s145 (a0, a1) h145
theorem rr145 (call : CallFn E) (n : Nat) (a0 : LI_) (a1 : LI_) : q145 call n a0 a1 = r145   a0 a1 := by kernel_rfl
theorem gq145 (n : Nat) (a0 : LI_) (a1 : LI_) : g145 (evalF E (n + 1)) a0 a1 = q145 (evalF E n) n a0 a1 := by kernel_rfl
noncomputable def q147 (call : CallFn E) (n : Nat) (a0 : LL_) (a1 : LI_) : Option (Int × Bool) := runHow E call n s147 (a0, a1) h147
theorem rr147 (call : CallFn E) (n : Nat) (a0 : LL_) (a1 : LI_) : q147 call n a0 a1 = r147 (g176 call)  a0 a1 := by kernel_rfl
theorem gq147 (n : Nat) (a0 : LL_) (a1 : LI_) : g147 (evalF E (n + 1)) a0 a1 = q147 (evalF E n) n a0 a1 := by kernel_rfl
noncomputable def q149 (call : CallFn E) (n : Nat) (a0 : Int) (a1 : LI_) : Option (Bool) := runHow E call n s149 (a0, a1) h149
theorem rr149 (call : CallFn E) (n : Nat) (a0 : Int) (a1 : LI_) : q149 call n a0 a1 = r149 (g104 call)  a0 a1 := by kernel_rfl
theorem gq149 (n : Nat) (a0 : Int) (a1 : LI_) : g149 (evalF E (n + 1)) a0 a1 = q149 (evalF E n) n a0 a1 := by kernel_rfl
def L150_0 : LH := ⟨[1, 2, 15, 16, 17], ⟨[.dat (.slice (.slice (.int .u8))), .fnc 145 [], .dat (.slice (.slice (.int .u8))), .dat (.int .i64), .dat (.int .i64)], []⟩, 0⟩
noncomputable def b150_0 : Code := codeAt c150 [1, 1, 0, 1, 0, 0]
noncomputable def lq150_0 (call : CallFn E) (n m : Nat) (y : LL_ × LL_ × Int × Int) : Option ((LL_ × LL_ × Int × Int) ⊕ (Bool)) := loopAt (ctxOf E call n s150 Tryz.f150 hs150) b150_0 [0, 1, 0, 1, 1] L150_0 m y
theorem lp150_0 (call : CallFn E) (n m : Nat) (y : LL_ × LL_ × Int × Int) : lq150_0 call n (m + 1) y = F150_0 (g145 call)  (lq150_0 call n m) y := by kernel_rfl
noncomputable def q150 (call : CallFn E) (n : Nat) (a0 : LL_) (a1 : LL_) : Option (Bool) := runHow E call n s150 (a0, a1) h150
theorem rr150 (call : CallFn E) (n : Nat) (a0 : LL_) (a1 : LL_) : q150 call n a0 a1 = r150 (g145 call) (lq150_0 call n n) a0 a1 := by kernel_rfl
theorem gq150 (n : Nat) (a0 : LL_) (a1 : LL_) : g150 (evalF E (n + 1)) a0 a1 = q150 (evalF E n) n a0 a1 := by kernel_rfl
noncomputable def q151 (call : CallFn E) (n : Nat) (a0 : ByteArray) : Option (Int) := runHow E call n s151 a0 h151
theorem rr151 (call : CallFn E) (n : Nat) (a0 : ByteArray) : q151 call n a0 = r151   a0 := by kernel_rfl
theorem gq151 (n : Nat) (a0 : ByteArray) : g151 (evalF E (n + 1)) a0 = q151 (evalF E n) n a0 := by kernel_rfl
noncomputable def q153 (call : CallFn E) (n : Nat) (a0 : Int) : Option (Int) := runHow E call n s153 a0 h153
theorem rr153 (call : CallFn E) (n : Nat) (a0 : Int) : q153 call n a0 = r153   a0 := by kernel_rfl
theorem gq153 (n : Nat) (a0 : Int) : g153 (evalF E (n + 1)) a0 = q153 (evalF E n) n a0 := by kernel_rfl
def L154_0 : LH := ⟨[0, 1, 5, 6, 7, 8, 9], ⟨[.dat (.slice (.int .u8)), .dat (.slice (.int .u8)), .dat (.int .u32), .dat (.int .u32), .dat (.int .i64), .dat (.int .u32), .dat (.int .i64)], []⟩, 0⟩
noncomputable def b154_0 : Code := codeAt c154 [1, 1, 1, 1, 0, 1, 0, 0]
noncomputable def lq154_0 (call : CallFn E) (n m : Nat) (y : LI_ × LI_ × Int × Int × Int × Int × Int) : Option ((LI_ × LI_ × Int × Int × Int × Int × Int) ⊕ (Int)) := loopAt (ctxOf E call n s154 Tryz.f154 hs154) b154_0 [0, 1, 0, 1, 1, 1, 1] L154_0 m y
def L154_1 : LH := ⟨[0, 1, 5, 6, 7, 8, 10], ⟨[.dat (.slice (.int .u8)), .dat (.slice (.int .u8)), .dat (.int .u32), .dat (.int .u32), .dat (.int .i64), .dat (.int .u32), .dat (.int .i64)], []⟩, 2⟩
noncomputable def b154_1 : Code := codeAt c154 [1, 1, 1, 1, 1, 1, 0, 1, 0, 0]
noncomputable def lq154_1 (call : CallFn E) (n m : Nat) (y : LI_ × LI_ × Int × Int × Int × Int × Int) : Option ((LI_ × LI_ × Int × Int × Int × Int × Int) ⊕ (Int)) := loopAt (ctxOf E call n s154 Tryz.f154 hs154) b154_1 [0, 1, 0, 1, 1, 1, 1, 1, 1] L154_1 m y
theorem lp154_1 (call : CallFn E) (n m : Nat) (y : LI_ × LI_ × Int × Int × Int × Int × Int) : lq154_1 call n (m + 1) y = F154_1 (g177 call)  (lq154_1 call n m) y := by kernel_rfl
theorem lp154_0 (call : CallFn E) (n m : Nat) (y : LI_ × LI_ × Int × Int × Int × Int × Int) : lq154_0 call n (m + 1) y = F154_0 (g177 call)  (lq154_0 call n m) y := by kernel_rfl
noncomputable def q154 (call : CallFn E) (n : Nat) (a0 : LI_) (a1 : LI_) : Option (Int) := runHow E call n s154 (a0, a1) h154
theorem rr154 (call : CallFn E) (n : Nat) (a0 : LI_) (a1 : LI_) : q154 call n a0 a1 = r154 (g177 call) (lq154_0 call n n) (lq154_1 call n n) a0 a1 := by kernel_rfl
theorem gq154 (n : Nat) (a0 : LI_) (a1 : LI_) : g154 (evalF E (n + 1)) a0 a1 = q154 (evalF E n) n a0 a1 := by kernel_rfl
noncomputable def q155 (call : CallFn E) (n : Nat) (a0 : (Int × (Int × (Int × Int)))) : Option (Bool) := runHow E call n s155 a0 h155
theorem rr155 (call : CallFn E) (n : Nat) (a0 : (Int × (Int × (Int × Int)))) : q155 call n a0 = r155 (g178 call)  a0 := by kernel_rfl
theorem gq155 (n : Nat) (a0 : (Int × (Int × (Int × Int)))) : g155 (evalF E (n + 1)) a0 = q155 (evalF E n) n a0 := by kernel_rfl
noncomputable def q156 (call : CallFn E) (n : Nat) (a0 : Int) : Option (Int) := runHow E call n s156 a0 h156
theorem rr156 (call : CallFn E) (n : Nat) (a0 : Int) : q156 call n a0 = r156 (g180 call)  a0 := by kernel_rfl
theorem gq156 (n : Nat) (a0 : Int) : g156 (evalF E (n + 1)) a0 = q156 (evalF E n) n a0 := by kernel_rfl
def L176_0 : LH := ⟨[0, 1, 2, 8, 9, 10], ⟨[.dat (.slice (.slice (.int .u8))), .dat (.slice (.int .u8)), .fnc 143 [], .dat (.int .i64), .dat (.int .i64), .dat (.int .i64)], []⟩, 0⟩
noncomputable def b176_0 : Code := codeAt c176 [1, 1, 1, 0, 0, 0]
noncomputable def lq176_0 (call : CallFn E) (n m : Nat) (y : LL_ × LI_ × Int × Int × Int) : Option ((LL_ × LI_ × Int × Int × Int) ⊕ (Int × Bool)) := loopAt (ctxOf E call n s176 Tryz.f176 hs176) b176_0 [0, 0, 1, 1, 1] L176_0 m y
theorem lp176_0 (call : CallFn E) (n m : Nat) (y : LL_ × LI_ × Int × Int × Int) : lq176_0 call n (m + 1) y = F176_0 (g143 call)  (lq176_0 call n m) y := by kernel_rfl
noncomputable def q176 (call : CallFn E) (n : Nat) (a0 : LL_) (a1 : LI_) : Option (Int × Bool) := runHow E call n s176 (a0, a1) h176
theorem rr176 (call : CallFn E) (n : Nat) (a0 : LL_) (a1 : LI_) : q176 call n a0 a1 = r176 (g143 call) (lq176_0 call n n) a0 a1 := by kernel_rfl
theorem gq176 (n : Nat) (a0 : LL_) (a1 : LI_) : g176 (evalF E (n + 1)) a0 a1 = q176 (evalF E n) n a0 a1 := by kernel_rfl
def L177_0 : LH := ⟨[0, 4, 5], ⟨[.dat (.slice (.int .u8)), .dat (.int .u32), .dat (.int .i64)], []⟩, 0⟩
noncomputable def b177_0 : Code := codeAt c177 [1, 1, 0, 1, 0, 0]
noncomputable def lq177_0 (call : CallFn E) (n m : Nat) (y : LI_ × Int × Int) : Option ((LI_ × Int × Int) ⊕ (Int × Int)) := loopAt (ctxOf E call n s177 Tryz.f177 hs177) b177_0 [0, 1, 0, 1, 1] L177_0 m y
def L177_1 : LH := ⟨[4, 6, 7, 8], ⟨[.dat (.int .u32), .dat (.int .u32), .dat (.int .u32), .dat (.int .i64)], []⟩, 2⟩
noncomputable def b177_1 : Code := codeAt c177 [1, 1, 1, 1, 0, 1, 0, 0]
noncomputable def lq177_1 (call : CallFn E) (n m : Nat) (y : Int × Int × Int × Int) : Option ((Int × Int × Int × Int) ⊕ (Int × Int)) := loopAt (ctxOf E call n s177 Tryz.f177 hs177) b177_1 [0, 1, 0, 1, 1, 1, 1] L177_1 m y
theorem lp177_1 (call : CallFn E) (n m : Nat) (y : Int × Int × Int × Int) : lq177_1 call n (m + 1) y = F177_1   (lq177_1 call n m) y := by kernel_rfl
theorem lp177_0 (call : CallFn E) (n m : Nat) (y : LI_ × Int × Int) : lq177_0 call n (m + 1) y = F177_0   (lq177_0 call n m) y := by kernel_rfl
noncomputable def q177 (call : CallFn E) (n : Nat) (a0 : LI_) : Option (Int × Int) := runHow E call n s177 a0 h177
theorem rr177 (call : CallFn E) (n : Nat) (a0 : LI_) : q177 call n a0 = r177  (lq177_0 call n n) (lq177_1 call n n) a0 := by kernel_rfl
theorem gq177 (n : Nat) (a0 : LI_) : g177 (evalF E (n + 1)) a0 = q177 (evalF E n) n a0 := by kernel_rfl
noncomputable def q178 (call : CallFn E) (n : Nat) (a0 : Int) : Option (Bool) := runHow E call n s178 a0 h178
theorem rr178 (call : CallFn E) (n : Nat) (a0 : Int) : q178 call n a0 = r178   a0 := by kernel_rfl
theorem gq178 (n : Nat) (a0 : Int) : g178 (evalF E (n + 1)) a0 = q178 (evalF E n) n a0 := by kernel_rfl
noncomputable def q179 (call : CallFn E) (n : Nat) (a0 : Int) : Option (Int) := runHow E call n s179 a0 h179
theorem rr179 (call : CallFn E) (n : Nat) (a0 : Int) : q179 call n a0 = r179   a0 := by kernel_rfl
theorem gq179 (n : Nat) (a0 : Int) : g179 (evalF E (n + 1)) a0 = q179 (evalF E n) n a0 := by kernel_rfl
noncomputable def q180 (call : CallFn E) (n : Nat) (a0 : Int) : Option (Int) := runHow E call n s180 a0 h180
theorem rr180 (call : CallFn E) (n : Nat) (a0 : Int) : q180 call n a0 = r180   a0 := by kernel_rfl
theorem gq180 (n : Nat) (a0 : Int) : g180 (evalF E (n + 1)) a0 = q180 (evalF E n) n a0 := by kernel_rfl
def R102 : Nat → LI_ → Option (LI_)
  | 0, _ => none
  | _ + 1, a0 => BytesX.cloneB a0
theorem e102 (n : Nat) : g102 (evalF E n) = R102 n := by cases n <;> rfl
def R141 : Nat → LL_ → Option (LL_)
  | 0, _ => none
  | _ + 1, a0 => NameX.cloneR a0
theorem e141 (n : Nat) : g141 (evalF E n) = R141 n := by cases n <;> rfl
def R142 : Nat → LL_ → Option (LL_)
  | 0, _ => none
  | _ + 1, a0 => NameX.sortR a0
theorem e142 (n : Nat) : g142 (evalF E n) = R142 n := by cases n <;> rfl
def R144 : Nat → LL_ → Option (LL_)
  | 0, _ => none
  | _ + 1, a0 => NameX.compactR a0
theorem e144 (n : Nat) : g144 (evalF E n) = R144 n := by cases n <;> rfl
def R99 : Nat → LL_ → Option (LL_)
  | 0, _ => none
  | n + 1, a0 => r99 (R102 n) (R141 n) (R142 n) (R144 n) (iter (F99_0 (R102 n) (R141 n) (R142 n) (R144 n) ) n) a0
theorem e99 : ∀ (n : Nat), g99 (evalF E n) = R99 n
  | 0 => by funext a0; rfl
  | n + 1 => by
    have l0 : lq99_0 (evalF E n) n n = (iter (F99_0 (R102 n) (R141 n) (R142 n) (R144 n) ) n) := iter_of (g := lq99_0 (evalF E n) n) rfl (fun m y => by rw [lp99_0]; simp only [e102 n, e141 n, e142 n, e144 n]) n
    funext a0
    rw [gq99, rr99]
    simp only [e102 n, e141 n, e142 n, e144 n, l0]
    rfl
def R146 : Nat → Int → LL_ → Option (LL_)
  | 0, _, _ => none
  | _ + 1, a0, a1 => NameX.growR (a0, a1)
theorem e146 (n : Nat) : g146 (evalF E n) = R146 n := by cases n <;> rfl
def R100 : Nat → (List LL_) → Option (LL_)
  | 0, _ => none
  | n + 1, a0 => r100 (R146 n) (iter (F100_0 (R146 n) ) n) (iter (F100_1 (R146 n) ) n) a0
theorem e100 : ∀ (n : Nat), g100 (evalF E n) = R100 n
  | 0 => by funext a0; rfl
  | n + 1 => by
    have l1 : lq100_1 (evalF E n) n n = (iter (F100_1 (R146 n) ) n) := iter_of (g := lq100_1 (evalF E n) n) rfl (fun m y => by rw [lp100_1]; simp only [e146 n]) n
    have l0 : lq100_0 (evalF E n) n n = (iter (F100_0 (R146 n) ) n) := iter_of (g := lq100_0 (evalF E n) n) rfl (fun m y => by rw [lp100_0]; simp only [e146 n]) n
    funext a0
    rw [gq100, rr100]
    simp only [e146 n, l0, l1]
    rfl
def R175 : Nat → LI_ → LI_ → Option (Int)
  | 0, _, _ => none
  | _ + 1, a0, a1 => NameX.cmpB (a0, a1)
theorem e175 (n : Nat) : g175 (evalF E n) = R175 n := by cases n <;> rfl
def R143 : Nat → LI_ → LI_ → Option (Int)
  | 0, _, _ => none
  | n + 1, a0, a1 => r143 (R175 n)  a0 a1
theorem e143 : ∀ (n : Nat), g143 (evalF E n) = R143 n
  | 0 => by funext a0 a1; rfl
  | n + 1 => by
    funext a0 a1
    rw [gq143, rr143]
    simp only [e175 n]
    rfl
def R176 : Nat → LL_ → LI_ → Option (Int × Bool)
  | 0, _, _ => none
  | n + 1, a0, a1 => r176 (R143 n) (iter (F176_0 (R143 n) ) n) a0 a1
theorem e176 : ∀ (n : Nat), g176 (evalF E n) = R176 n
  | 0 => by funext a0 a1; rfl
  | n + 1 => by
    have l0 : lq176_0 (evalF E n) n n = (iter (F176_0 (R143 n) ) n) := iter_of (g := lq176_0 (evalF E n) n) rfl (fun m y => by rw [lp176_0]; simp only [e143 n]) n
    funext a0 a1
    rw [gq176, rr176]
    simp only [e143 n, l0]
    rfl
def R147 : Nat → LL_ → LI_ → Option (Int × Bool)
  | 0, _, _ => none
  | n + 1, a0, a1 => r147 (R176 n)  a0 a1
theorem e147 : ∀ (n : Nat), g147 (evalF E n) = R147 n
  | 0 => by funext a0 a1; rfl
  | n + 1 => by
    funext a0 a1
    rw [gq147, rr147]
    simp only [e176 n]
    rfl
def R101 : Nat → LL_ → LL_ → Option (LI_ × Bool)
  | 0, _, _ => none
  | n + 1, a0, a1 => r101 (R147 n) (iter (F101_0 (R147 n) ) n) a0 a1
theorem e101 : ∀ (n : Nat), g101 (evalF E n) = R101 n
  | 0 => by funext a0 a1; rfl
  | n + 1 => by
    have l0 : lq101_0 (evalF E n) n n = (iter (F101_0 (R147 n) ) n) := iter_of (g := lq101_0 (evalF E n) n) rfl (fun m y => by rw [lp101_0]; simp only [e147 n]) n
    funext a0 a1
    rw [gq101, rr101]
    simp only [e147 n, l0]
    rfl
def R46 : Nat → LL_ → LL_ → Option (LI_ × LI_ × Int)
  | 0, _, _ => none
  | n + 1, a0, a1 => r46 (R99 n) (R100 n) (R101 n)  a0 a1
theorem e46 : ∀ (n : Nat), g46 (evalF E n) = R46 n
  | 0 => by funext a0 a1; rfl
  | n + 1 => by
    funext a0 a1
    rw [gq46, rr46]
    simp only [e99 n, e100 n, e101 n]
    rfl
def R103 : Nat → Int → Option (Bool)
  | 0, _ => none
  | n + 1, a0 => r103   a0
theorem e103 : ∀ (n : Nat), g103 (evalF E n) = R103 n
  | 0 => by funext a0; rfl
  | n + 1 => by
    funext a0
    rw [gq103, rr103]
    rfl
def R148 : Nat → LI_ → Int → Option (Int)
  | 0, _, _ => none
  | _ + 1, a0, a1 => BytesX.indexB (a0, a1)
theorem e148 (n : Nat) : g148 (evalF E n) = R148 n := by cases n <;> rfl
def R104 : Nat → LI_ → Int → Option (Int)
  | 0, _, _ => none
  | n + 1, a0, a1 => r104 (R148 n)  a0 a1
theorem e104 : ∀ (n : Nat), g104 (evalF E n) = R104 n
  | 0 => by funext a0 a1; rfl
  | n + 1 => by
    funext a0 a1
    rw [gq104, rr104]
    simp only [e148 n]
    rfl
def R49 : Nat → Int → LI_ → Option (LL_ × Int)
  | 0, _, _ => none
  | n + 1, a0, a1 => r49 (R102 n) (R103 n) (R104 n) (iter (F49_0 (R102 n) (R103 n) (R104 n) ) n) a0 a1
theorem e49 : ∀ (n : Nat), g49 (evalF E n) = R49 n
  | 0 => by funext a0 a1; rfl
  | n + 1 => by
    have l0 : lq49_0 (evalF E n) n n = (iter (F49_0 (R102 n) (R103 n) (R104 n) ) n) := iter_of (g := lq49_0 (evalF E n) n) rfl (fun m y => by rw [lp49_0]; simp only [e102 n, e103 n, e104 n]) n
    funext a0 a1
    rw [gq49, rr49]
    simp only [e102 n, e103 n, e104 n, l0]
    rfl
def R50 : Nat → LI_ → LI_ → Option (Int × Int)
  | 0, _, _ => none
  | n + 1, a0, a1 => r50  (iter (F50_0  ) n) (iter (F50_1  ) n) a0 a1
theorem e50 : ∀ (n : Nat), g50 (evalF E n) = R50 n
  | 0 => by funext a0 a1; rfl
  | n + 1 => by
    have l1 : lq50_1 (evalF E n) n n = (iter (F50_1  ) n) := iter_of (g := lq50_1 (evalF E n) n) rfl (fun m y => by rw [lp50_1]) n
    have l0 : lq50_0 (evalF E n) n n = (iter (F50_0  ) n) := iter_of (g := lq50_0 (evalF E n) n) rfl (fun m y => by rw [lp50_0]) n
    funext a0 a1
    rw [gq50, rr50]
    simp only [l0, l1]
    rfl
def R105 : Nat → LI_ → Option (LI_)
  | 0, _ => none
  | _ + 1, a0 => PortX.cloneI a0
theorem e105 (n : Nat) : g105 (evalF E n) = R105 n := by cases n <;> rfl
def R51 : Nat → LI_ → LI_ → Option (LI_ × LI_)
  | 0, _, _ => none
  | n + 1, a0, a1 => r51 (R50 n) (R105 n)  a0 a1
theorem e51 : ∀ (n : Nat), g51 (evalF E n) = R51 n
  | 0 => by funext a0 a1; rfl
  | n + 1 => by
    funext a0 a1
    rw [gq51, rr51]
    simp only [e50 n, e105 n]
    rfl
def R18 : Nat → Int → LI_ → LI_ → Option ((LL_ × (LL_ × (LI_ × (LI_ × (Int × (Int × (LI_ × LI_))))))) × Int)
  | 0, _, _, _ => none
  | n + 1, a0, a1, a2 => r18 (R46 n) (R49 n) (R50 n) (R51 n)  a0 a1 a2
theorem e18 : ∀ (n : Nat), g18 (evalF E n) = R18 n
  | 0 => by funext a0 a1 a2; rfl
  | n + 1 => by
    funext a0 a1 a2
    rw [gq18, rr18]
    simp only [e46 n, e49 n, e50 n, e51 n]
    rfl
def R151 : Nat → ByteArray → Option (Int)
  | 0, _ => none
  | n + 1, a0 => r151   a0
theorem e151 : ∀ (n : Nat), g151 (evalF E n) = R151 n
  | 0 => by funext a0; rfl
  | n + 1 => by
    funext a0
    rw [gq151, rr151]
    rfl
def R115 : Nat → LI_ → Option (Int)
  | 0, _ => none
  | n + 1, a0 => r115 (R151 n) (iter (F115_0 (R151 n) ) n) a0
theorem e115 : ∀ (n : Nat), g115 (evalF E n) = R115 n
  | 0 => by funext a0; rfl
  | n + 1 => by
    have l0 : lq115_0 (evalF E n) n n = (iter (F115_0 (R151 n) ) n) := iter_of (g := lq115_0 (evalF E n) n) rfl (fun m y => by rw [lp115_0]; simp only [e151 n]) n
    funext a0
    rw [gq115, rr115]
    simp only [e151 n, l0]
    rfl
def R116 : Nat → LI_ → Int → Option (Int)
  | 0, _, _ => none
  | _ + 1, a0, a1 => PortX.countB (a0, a1)
theorem e116 (n : Nat) : g116 (evalF E n) = R116 n := by cases n <;> rfl
def R145 : Nat → LI_ → LI_ → Option (Bool)
  | 0, _, _ => none
  | n + 1, a0, a1 => r145   a0 a1
theorem e145 : ∀ (n : Nat), g145 (evalF E n) = R145 n
  | 0 => by funext a0 a1; rfl
  | n + 1 => by
    funext a0 a1
    rw [gq145, rr145]
    rfl
def R117 : Nat → LI_ → LI_ → Option (Int)
  | 0, _, _ => none
  | n + 1, a0, a1 => r117 (R104 n) (R145 n)  a0 a1
theorem e117 : ∀ (n : Nat), g117 (evalF E n) = R117 n
  | 0 => by funext a0 a1; rfl
  | n + 1 => by
    funext a0 a1
    rw [gq117, rr117]
    simp only [e104 n, e145 n]
    rfl
def R70 : Nat → LI_ → LI_ → Option (Int)
  | 0, _, _ => none
  | n + 1, a0, a1 => r70 (R115 n) (R116 n) (R117 n) (iter (F70_0 (R115 n) (R116 n) (R117 n) ) n) a0 a1
theorem e70 : ∀ (n : Nat), g70 (evalF E n) = R70 n
  | 0 => by funext a0 a1; rfl
  | n + 1 => by
    have l0 : lq70_0 (evalF E n) n n = (iter (F70_0 (R115 n) (R116 n) (R117 n) ) n) := iter_of (g := lq70_0 (evalF E n) n) rfl (fun m y => by rw [lp70_0]; simp only [e115 n, e116 n, e117 n]) n
    funext a0 a1
    rw [gq70, rr70]
    simp only [e115 n, e116 n, e117 n, l0]
    rfl
def R29 : Nat → Int → LI_ → Option (Int × Int)
  | 0, _, _ => none
  | n + 1, a0, a1 => r29 (R70 n)  a0 a1
theorem e29 : ∀ (n : Nat), g29 (evalF E n) = R29 n
  | 0 => by funext a0 a1; rfl
  | n + 1 => by
    funext a0 a1
    rw [gq29, rr29]
    simp only [e70 n]
    rfl
def R30 : Nat → LI_ → LI_ → Option ((Int × (Int × (Int × Int))))
  | 0, _, _ => none
  | _ + 1, a0, a1 => PortX.shapeO (a0, a1)
theorem e30 (n : Nat) : g30 (evalF E n) = R30 n := by cases n <;> rfl
def R178 : Nat → Int → Option (Bool)
  | 0, _ => none
  | n + 1, a0 => r178   a0
theorem e178 : ∀ (n : Nat), g178 (evalF E n) = R178 n
  | 0 => by funext a0; rfl
  | n + 1 => by
    funext a0
    rw [gq178, rr178]
    rfl
def R155 : Nat → (Int × (Int × (Int × Int))) → Option (Bool)
  | 0, _ => none
  | n + 1, a0 => r155 (R178 n)  a0
theorem e155 : ∀ (n : Nat), g155 (evalF E n) = R155 n
  | 0 => by funext a0; rfl
  | n + 1 => by
    funext a0
    rw [gq155, rr155]
    simp only [e178 n]
    rfl
def R118 : Nat → Int → (Int × (Int × (Int × Int))) → Option (Bool)
  | 0, _, _ => none
  | n + 1, a0, a1 => r118 (R155 n)  a0 a1
theorem e118 : ∀ (n : Nat), g118 (evalF E n) = R118 n
  | 0 => by funext a0 a1; rfl
  | n + 1 => by
    funext a0 a1
    rw [gq118, rr118]
    simp only [e155 n]
    rfl
def R119 : Nat → Int → Int → Option (Int)
  | 0, _, _ => none
  | n + 1, a0, a1 => r119   a0 a1
theorem e119 : ∀ (n : Nat), g119 (evalF E n) = R119 n
  | 0 => by funext a0 a1; rfl
  | n + 1 => by
    funext a0 a1
    rw [gq119, rr119]
    rfl
def R180 : Nat → Int → Option (Int)
  | 0, _ => none
  | n + 1, a0 => r180   a0
theorem e180 : ∀ (n : Nat), g180 (evalF E n) = R180 n
  | 0 => by funext a0; rfl
  | n + 1 => by
    funext a0
    rw [gq180, rr180]
    rfl
def R156 : Nat → Int → Option (Int)
  | 0, _ => none
  | n + 1, a0 => r156 (R180 n)  a0
theorem e156 : ∀ (n : Nat), g156 (evalF E n) = R156 n
  | 0 => by funext a0; rfl
  | n + 1 => by
    funext a0
    rw [gq156, rr156]
    simp only [e180 n]
    rfl
def R120 : Nat → Int → Option (Int)
  | 0, _ => none
  | n + 1, a0 => r120 (R156 n)  a0
theorem e120 : ∀ (n : Nat), g120 (evalF E n) = R120 n
  | 0 => by funext a0; rfl
  | n + 1 => by
    funext a0
    rw [gq120, rr120]
    simp only [e156 n]
    rfl
def R71 : Nat → Int → (Int × (Int × (Int × Int))) → Option (Int × Int)
  | 0, _, _ => none
  | n + 1, a0, a1 => r71 (R118 n) (R119 n) (R120 n)  a0 a1
theorem e71 : ∀ (n : Nat), g71 (evalF E n) = R71 n
  | 0 => by funext a0 a1; rfl
  | n + 1 => by
    funext a0 a1
    rw [gq71, rr71]
    simp only [e118 n, e119 n, e120 n]
    rfl
def R31 : Nat → (Int × (Int × (Int × Int))) → Option (Int)
  | 0, _ => none
  | n + 1, a0 => r31 (R71 n) (iter (F31_0 (R71 n) ) n) a0
theorem e31 : ∀ (n : Nat), g31 (evalF E n) = R31 n
  | 0 => by funext a0; rfl
  | n + 1 => by
    have l0 : lq31_0 (evalF E n) n n = (iter (F31_0 (R71 n) ) n) := iter_of (g := lq31_0 (evalF E n) n) rfl (fun m y => by rw [lp31_0]; simp only [e71 n]) n
    funext a0
    rw [gq31, rr31]
    simp only [e71 n, l0]
    rfl
def R72 : Nat → Int → (Int × (Int × (Int × Int))) → Option (Int × Int)
  | 0, _, _ => none
  | n + 1, a0, a1 => r72 (R118 n) (R119 n)  a0 a1
theorem e72 : ∀ (n : Nat), g72 (evalF E n) = R72 n
  | 0 => by funext a0 a1; rfl
  | n + 1 => by
    funext a0 a1
    rw [gq72, rr72]
    simp only [e118 n, e119 n]
    rfl
def R32 : Nat → Int → (Int × (Int × (Int × Int))) → Int → Option (Int)
  | 0, _, _, _ => none
  | n + 1, a0, a1, a2 => r32 (R72 n)  a0 a1 a2
theorem e32 : ∀ (n : Nat), g32 (evalF E n) = R32 n
  | 0 => by funext a0 a1 a2; rfl
  | n + 1 => by
    funext a0 a1 a2
    rw [gq32, rr32]
    simp only [e72 n]
    rfl
def R13 : Nat → Int → Int → LI_ → LI_ → (Int × Int) → Option ((LL_ × (LL_ × (LI_ × (LI_ × (Int × (Int × (LI_ × LI_))))))) × Int × Int)
  | 0, _, _, _, _, _ => none
  | n + 1, a0, a1, a2, a3, a4 => r13 (R18 n) (R29 n) (R30 n) (R31 n) (R32 n)  a0 a1 a2 a3 a4
theorem e13 : ∀ (n : Nat), g13 (evalF E n) = R13 n
  | 0 => by funext a0 a1 a2 a3 a4; rfl
  | n + 1 => by
    funext a0 a1 a2 a3 a4
    rw [gq13, rr13]
    simp only [e18 n, e29 n, e30 n, e31 n, e32 n]
    rfl
def R73 : Nat → LI_ → LI_ → Option (LL_)
  | 0, _, _ => none
  | _ + 1, a0, a1 => PortX.behG (a0, a1)
end Go.Proofs.YtjidbphhcekelaaGreat.EPortKnown
