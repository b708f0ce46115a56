import Derived.Test.YtjidbphhcekelaaGreatProg
import Derived.Test.YtjidbphhcekelaaGreatAeB
import Derived.Test.YtjidbphhcekelaaGreatNameC
import Derived.Test.YtjidbphhcekelaaGreatNameR
import Derived.Test.YtjidbphhcekelaaGreatNameX
import Derived.Test.YtjidbphhcekelaaGreatPortX
namespace Go.Proofs.YtjidbphhcekelaaGreat.EPortScripts
open Go Go.Proofs.YtjidbphhcekelaaGreat.AE
set_option maxRecDepth 100000
set_option linter.unusedVariables false
abbrev LI_ : Type := List Int
abbrev LL_ : Type := List (List Int)
abbrev HK_ : Type := List (Int × (List (List Int) × List (List Int)))
abbrev TH_ : Ty := (.slice (.pair (.int .i64) (.pair (.slice (.slice (.int .u8))) (.one (.slice (.slice (.int .u8)))))))
abbrev TK_ : Ty := (.pair (.int .i64) (.pair (.slice (.slice (.int .u8))) (.one (.slice (.slice (.int .u8))))))
abbrev TT_ : Ty := (.slice (.slice (.int .u8)))
abbrev TB_ : Ty := (.slice (.int .u8))
abbrev TI_ : Ty := (.slice (.int .i64))
noncomputable def cd (f : Func) : Code := match f.body with | some c => c | none => .skip
noncomputable def c4 : Code := cd Tryz.f4
def s4 : Sig := ⟨⟨[.dat TB_, .dat TB_], []⟩, ⟨[.dat .bool], []⟩⟩
def hs4 : List (List Nat × LH) := []
noncomputable def h4 : How s4 := .code Tryz.f4 c4 hs4
noncomputable def c5 : Code := cd Tryz.f5
def s5 : Sig := ⟨⟨[.dat (.int .i64), .dat (.int .i64), .dat TB_, .dat TB_, .dat (.pair (.int .i64) (.one (.int .i64)))], []⟩, ⟨[.dat (.pair (.int .i64) (.pair (.int .i64) (.pair (.int .i64) (.pair (.int .i64) (.pair (.slice (.pair (.int .i64) (.one (.int .i64)))) (.one TH_)))))), .dat (.int .i64)], []⟩⟩
def hs5 : List (List Nat × LH) := []
noncomputable def h5 : How s5 := .code Tryz.f5 c5 hs5
noncomputable def c6 : Code := cd Tryz.f6
def s6 : Sig := ⟨⟨[], []⟩, ⟨[.dat (.pair (.int .i64) (.one (.int .i64)))], []⟩⟩
def hs6 : List (List Nat × LH) := []
noncomputable def h6 : How s6 := .code Tryz.f6 c6 hs6
noncomputable def c7 : Code := cd Tryz.f7
def s7 : Sig := ⟨⟨[.dat (.int .i64), .dat TB_, .dat TB_, .dat (.int .i64)], []⟩, ⟨[.dat (.int .i64), .dat (.int .i64)], []⟩⟩
def hs7 : List (List Nat × LH) := []
noncomputable def h7 : How s7 := .code Tryz.f7 c7 hs7
noncomputable def c8 : Code := cd Tryz.f8
def s8 : Sig := ⟨⟨[.dat TB_, .dat TB_], []⟩, ⟨[.dat TB_, .dat (.int .i64), .dat (.int .i64)], []⟩⟩
def hs8 : List (List Nat × LH) := []
noncomputable def h8 : How s8 := .code Tryz.f8 c8 hs8
noncomputable def c9 : Code := cd Tryz.f9
def s9 : Sig := ⟨⟨[.dat TB_, .dat TB_], []⟩, ⟨[.dat TB_, .dat (.int .i64), .dat (.int .i64)], []⟩⟩
def hs9 : List (List Nat × LH) := []
noncomputable def h9 : How s9 := .code Tryz.f9 c9 hs9
noncomputable def c10 : Code := cd Tryz.f10
def s10 : Sig := ⟨⟨[], []⟩, ⟨[.dat .bool], []⟩⟩
def hs10 : List (List Nat × LH) := []
noncomputable def h10 : How s10 := .code Tryz.f10 c10 hs10
noncomputable def c11 : Code := cd Tryz.f11
def s11 : Sig := ⟨⟨[.dat TB_, .dat TB_], []⟩, ⟨[.dat TB_, .dat (.int .i64), .dat (.int .i64)], []⟩⟩
def hs11 : List (List Nat × LH) := []
noncomputable def h11 : How s11 := .code Tryz.f11 c11 hs11
noncomputable def c12 : Code := cd Tryz.f12
def s12 : Sig := ⟨⟨[.dat TB_, .dat TB_], []⟩, ⟨[.dat TB_, .dat (.int .i64), .dat (.int .i64)], []⟩⟩
def hs12 : List (List Nat × LH) := []
noncomputable def h12 : How s12 := .code Tryz.f12 c12 hs12
noncomputable def c13 : Code := cd Tryz.f13
def s13 : Sig := ⟨⟨[.dat (.int .i64), .dat (.int .i64), .dat TB_, .dat TB_, .dat (.pair (.int .i64) (.one (.int .i64)))], []⟩, ⟨[.dat (.pair TT_ (.pair TT_ (.pair TI_ (.pair TI_ (.pair (.int .i64) (.pair (.int .i64) (.pair TI_ (.one TI_)))))))), .dat (.int .i64), .dat (.int .i64)], []⟩⟩
def hs13 : List (List Nat × LH) := []
noncomputable def h13 : How s13 := .code Tryz.f13 c13 hs13
noncomputable def c14 : Code := cd Tryz.f14
def s14 : Sig := ⟨⟨[.dat (.int .i64), .dat TI_, .dat TI_], []⟩, ⟨[.dat (.slice (.pair (.int .i64) (.one (.int .i64)))), .dat (.int .i64)], []⟩⟩
def hs14 : List (List Nat × LH) := []
noncomputable def h14 : How s14 := .code Tryz.f14 c14 hs14
noncomputable def c15 : Code := cd Tryz.f15
def s15 : Sig := ⟨⟨[.dat (.slice (.pair (.int .i64) (.one (.int .i64)))), .dat (.int .i64), .dat (.int .i64), .dat (.int .i64), .dat (.int .i64)], []⟩, ⟨[.dat (.slice (.pair (.int .i64) (.one (.int .i64)))), .dat (.int .i64)], []⟩⟩
def hs15 : List (List Nat × LH) := [([0, 1, 0, 1, 1, 1], ⟨[0, 1, 2, 3, 4, 12, 49, 50], ⟨[.dat (.slice (.pair (.int .i64) (.one (.int .i64)))), .dat (.int .i64), .dat (.int .i64), .dat (.int .i64), .dat (.int .i64), .ref 0, .dat (.int .i64), .dat (.int .i64)], [.row (.pair (.int .i64) (.one (.int .i64)))]⟩, 0⟩), ([0, 1, 0, 1, 1, 1, 1], ⟨[1, 2, 3, 4, 12, 60, 61, 62], ⟨[.dat (.int .i64), .dat (.int .i64), .dat (.int .i64), .dat (.int .i64), .ref 0, .dat (.slice (.pair (.int .i64) (.one (.int .i64)))), .dat (.int .i64), .dat (.int .i64)], [.row (.pair (.int .i64) (.one (.int .i64)))]⟩, 2⟩), ([0, 1, 0, 1, 1, 1, 1, 1], ⟨[3, 4, 12, 16], ⟨[.dat (.int .i64), .dat (.int .i64), .ref 0, .dat (.int .i64)], [.row (.pair (.int .i64) (.one (.int .i64)))]⟩, 4⟩)]
noncomputable def h15 : How s15 := .code Tryz.f15 c15 hs15
noncomputable def c16 : Code := cd Tryz.f16
def s16 : Sig := ⟨⟨[.dat TI_, .dat TI_, .dat (.slice (.pair (.int .i64) (.one (.int .i64))))], []⟩, ⟨[.dat (.slice (.pair (.int .i64) (.one (.int .i64)))), .dat (.int .i64)], []⟩⟩
def hs16 : List (List Nat × LH) := []
noncomputable def h16 : How s16 := .code Tryz.f16 c16 hs16
noncomputable def c17 : Code := cd Tryz.f17
def s17 : Sig := ⟨⟨[.dat TT_, .dat TT_, .dat (.slice (.pair (.int .i64) (.one (.int .i64))))], []⟩, ⟨[.dat TH_, .dat (.int .i64)], []⟩⟩
def hs17 : List (List Nat × LH) := [([0, 1, 0, 1, 1, 1, 1, 1, 1], ⟨[3, 4, 11, 14, 30, 31, 32], ⟨[.ptr 0 0, .ptr 1 0, .ptr 2 0, .fnc 47 [3, 4, 2, 0, 1], .dat (.slice (.pair (.int .i64) (.one (.int .i64)))), .dat (.int .i64), .dat (.int .i64)], [.var TT_, .var TT_, .vrow TK_, .var (.int .i64), .var (.int .i64)]⟩, 0⟩)]
noncomputable def h17 : How s17 := .code Tryz.f17 c17 hs17
noncomputable def c18 : Code := cd Tryz.f18
def s18 : Sig := ⟨⟨[.dat (.int .i64), .dat TB_, .dat TB_], []⟩, ⟨[.dat (.pair TT_ (.pair TT_ (.pair TI_ (.pair TI_ (.pair (.int .i64) (.pair (.int .i64) (.pair TI_ (.one TI_)))))))), .dat (.int .i64)], []⟩⟩
def hs18 : List (List Nat × LH) := []
noncomputable def h18 : How s18 := .code Tryz.f18 c18 hs18
noncomputable def c19 : Code := cd Tryz.f19
def s19 : Sig := ⟨⟨[.dat TI_, .dat TI_, .dat (.int .i64)], []⟩, ⟨[.dat (.int .i64), .dat (.int .i64), .dat (.int .i64)], []⟩⟩
def hs19 : List (List Nat × LH) := [([0, 1, 0, 1, 1, 1, 1, 1], ⟨[0, 1, 2, 9, 10, 12, 31, 32], ⟨[.dat TI_, .dat TI_, .dat (.int .i64), .dat (.int .i64), .dat (.int .i64), .ptr 0 0, .dat (.int .i64), .dat (.int .i64)], [.var (.pair (.int .i64) (.one TI_))]⟩, 0⟩)]
noncomputable def h19 : How s19 := .code Tryz.f19 c19 hs19
noncomputable def c20 : Code := cd Tryz.f20
def s20 : Sig := ⟨⟨[.dat TB_], []⟩, ⟨[.dat (.int .i64), .dat TH_, .dat (.int .i64), .dat (.int .i64)], []⟩⟩
def hs20 : List (List Nat × LH) := [([0, 0, 1, 1, 1, 1], ⟨[0, 3, 6, 7], ⟨[.dat TB_, .ref 0, .ptr 1 0, .dat (.int .i64)], [.row TK_, .var (.pair TB_ (.pair (.int .i64) (.one (.int .i64))))]⟩, 0⟩)]
noncomputable def h20 : How s20 := .code Tryz.f20 c20 hs20
noncomputable def c21 : Code := cd Tryz.f21
def s21 : Sig := ⟨⟨[.dat (.int .i64), .dat TH_, .dat TB_], []⟩, ⟨[.dat TB_, .dat (.int .i64)], []⟩⟩
def hs21 : List (List Nat × LH) := []
noncomputable def h21 : How s21 := .code Tryz.f21 c21 hs21
noncomputable def c22 : Code := cd Tryz.f22
def s22 : Sig := ⟨⟨[.dat TH_], []⟩, ⟨[.dat TH_, .dat (.int .i64)], []⟩⟩
def hs22 : List (List Nat × LH) := [([0, 1, 0, 1, 1, 1, 1], ⟨[4, 5, 12, 13, 14], ⟨[.ref 0, .dat (.int .i64), .dat TH_, .dat (.int .i64), .dat (.int .i64)], [.row TK_]⟩, 0⟩)]
noncomputable def h22 : How s22 := .code Tryz.f22 c22 hs22
noncomputable def c23 : Code := cd Tryz.f23
def s23 : Sig := ⟨⟨[.dat (.int .i64), .dat (.int .i64), .dat TB_, .dat TB_, .dat (.pair (.int .i64) (.one (.int .i64)))], []⟩, ⟨[.dat (.int .i64), .dat (.int .i64), .dat (.int .i64)], []⟩⟩
def hs23 : List (List Nat × LH) := []
noncomputable def h23 : How s23 := .code Tryz.f23 c23 hs23
noncomputable def c24 : Code := cd Tryz.f24
def s24 : Sig := ⟨⟨[.dat TB_], []⟩, ⟨[.dat (.int .i64), .dat TH_, .dat (.int .i64), .dat (.int .i64)], []⟩⟩
def hs24 : List (List Nat × LH) := [([0, 0, 1, 1, 1, 1, 1], ⟨[0, 6, 7, 10], ⟨[.dat TB_, .dat (.int .i64), .dat (.int .i64), .ref 0], [.row TK_]⟩, 2⟩), ([0, 1, 0, 1, 1], ⟨[0, 6, 7, 8], ⟨[.dat TB_, .dat (.int .i64), .dat (.int .i64), .dat (.int .i64)], []⟩, 0⟩), ([0, 1, 0, 1, 1, 1, 1, 0, 1, 0, 0, 0, 1, 1, 1, 1, 1], ⟨[0, 6, 7, 10, 12, 13, 15, 16], ⟨[.dat TB_, .dat (.int .i64), .dat (.int .i64), .ref 0, .dat (.int .i64), .dat (.int .i64), .ptr 1 0, .dat (.int .i64)], [.row TK_, .vst TK_]⟩, 4⟩)]
noncomputable def h24 : How s24 := .code Tryz.f24 c24 hs24
noncomputable def c25 : Code := cd Tryz.f25
def s25 : Sig := ⟨⟨[.dat TH_, .dat TT_], []⟩, ⟨[.dat TT_, .dat (.int .i64)], []⟩⟩
def hs25 : List (List Nat × LH) := [([0, 1, 0, 1, 1, 0, 0, 1, 0, 0, 1, 0, 1, 1, 1, 1], ⟨[0, 1, 6, 7, 8, 9, 10], ⟨[.dat TH_, .dat TT_, .ref 0, .dat (.int .i64), .dat (.int .i64), .ptr 1 0, .dat (.int .i64)], [.row TB_, .var TK_]⟩, 2⟩), ([0, 1, 0, 1, 1, 1, 1], ⟨[0, 1, 6, 7, 8], ⟨[.dat TH_, .dat TT_, .ref 0, .dat (.int .i64), .dat (.int .i64)], [.row TB_]⟩, 0⟩)]
noncomputable def h25 : How s25 := .code Tryz.f25 c25 hs25
noncomputable def c26 : Code := cd Tryz.f26
def s26 : Sig := ⟨⟨[.dat (.int .i64), .dat TB_], []⟩, ⟨[.dat TT_], []⟩⟩
def hs26 : List (List Nat × LH) := []
noncomputable def h26 : How s26 := .code Tryz.f26 c26 hs26
noncomputable def c27 : Code := cd Tryz.f27
def s27 : Sig := ⟨⟨[.dat TT_], []⟩, ⟨[.dat TB_], []⟩⟩
def hs27 : List (List Nat × LH) := [([0, 1, 0, 1, 1], ⟨[0, 3, 4], ⟨[.dat TT_, .ref 0, .dat (.int .i64)], [.row (.int .u8)]⟩, 0⟩)]
noncomputable def h27 : How s27 := .code Tryz.f27 c27 hs27
noncomputable def c28 : Code := cd Tryz.f28
def s28 : Sig := ⟨⟨[.dat TH_], []⟩, ⟨[.dat TH_, .dat (.int .i64)], []⟩⟩
def hs28 : List (List Nat × LH) := [([0, 1, 0, 1, 1, 1, 1], ⟨[0, 4, 5, 6], ⟨[.dat TH_, .ref 0, .dat (.int .i64), .dat (.int .i64)], [.row TK_]⟩, 0⟩)]
noncomputable def h28 : How s28 := .code Tryz.f28 c28 hs28
noncomputable def c29 : Code := cd Tryz.f29
def s29 : Sig := ⟨⟨[.dat (.int .i64), .dat TB_], []⟩, ⟨[.dat (.int .i64), .dat (.int .i64)], []⟩⟩
def hs29 : List (List Nat × LH) := []
noncomputable def h29 : How s29 := .code Tryz.f29 c29 hs29
noncomputable def c31 : Code := cd Tryz.f31
def s31 : Sig := ⟨⟨[.dat (.pair (.int .i64) (.pair (.int .i64) (.pair (.int .i64) (.one (.int .i64)))))], []⟩, ⟨[.dat (.int .i64)], []⟩⟩
def hs31 : List (List Nat × LH) := [([0, 1, 0, 1, 1], ⟨[1, 3, 4, 5], ⟨[.ptr 0 0, .dat (.int .i64), .dat (.int .i64), .dat (.int .i64)], [.var (.pair (.int .i64) (.pair (.int .i64) (.pair (.int .i64) (.one (.int .i64)))))]⟩, 0⟩)]
noncomputable def h31 : How s31 := .code Tryz.f31 c31 hs31
noncomputable def c32 : Code := cd Tryz.f32
def s32 : Sig := ⟨⟨[.dat (.int .i64), .dat (.pair (.int .i64) (.pair (.int .i64) (.pair (.int .i64) (.one (.int .i64))))), .dat (.int .i64)], []⟩, ⟨[.dat (.int .i64)], []⟩⟩
def hs32 : List (List Nat × LH) := []
noncomputable def h32 : How s32 := .code Tryz.f32 c32 hs32
noncomputable def c33 : Code := cd Tryz.f33
def s33 : Sig := ⟨⟨[.dat TI_, .dat TI_], []⟩, ⟨[.dat (.slice (.pair (.int .i64) (.one (.int .i64)))), .dat (.int .i64)], []⟩⟩
def hs33 : List (List Nat × LH) := [([0, 1, 0, 1, 1, 1], ⟨[0, 1, 6, 7, 8, 9], ⟨[.dat TI_, .dat TI_, .dat (.slice TI_), .ref 0, .dat (.int .i64), .dat (.int .i64)], [.row (.pair (.int .i64) (.one (.int .i64)))]⟩, 0⟩)]
noncomputable def h33 : How s33 := .code Tryz.f33 c33 hs33
noncomputable def c42 : Code := cd Tryz.f42
def s42 : Sig := ⟨⟨[.dat (.int .i64)], []⟩, ⟨[.dat .bool], []⟩⟩
def hs42 : List (List Nat × LH) := []
noncomputable def h42 : How s42 := .code Tryz.f42 c42 hs42
noncomputable def c43 : Code := cd Tryz.f43
def s43 : Sig := ⟨⟨[.dat TI_, .dat TI_, .dat (.slice (.pair (.int .i64) (.one (.int .i64))))], []⟩, ⟨[.dat .bool], []⟩⟩
def hs43 : List (List Nat × LH) := [([0, 1, 0, 1, 1], ⟨[0, 1, 7, 11, 12, 13], ⟨[.dat TI_, .dat TI_, .ptr 0 0, .dat (.slice (.pair (.int .i64) (.one (.int .i64)))), .dat (.int .i64), .dat (.int .i64)], [.var (.pair (.int .i64) (.one (.int .i64)))]⟩, 0⟩)]
noncomputable def h43 : How s43 := .code Tryz.f43 c43 hs43
noncomputable def c44 : Code := cd Tryz.f44
def s44 : Sig := ⟨⟨[.dat TI_, .dat TI_], []⟩, ⟨[.dat (.int .i64)], []⟩⟩
def hs44 : List (List Nat × LH) := [([0, 1, 0, 1, 1], ⟨[0, 1, 5, 6], ⟨[.dat TI_, .dat TI_, .ref 0, .dat (.int .i64)], [.row (.int .i64)]⟩, 0⟩), ([0, 1, 1, 0, 0, 1, 0, 0, 1, 0, 1, 1], ⟨[0, 1, 5, 6, 7, 8], ⟨[.dat TI_, .dat TI_, .ref 0, .dat (.int .i64), .dat (.int .i64), .dat (.int .i64)], [.row (.int .i64)]⟩, 2⟩)]
noncomputable def h44 : How s44 := .code Tryz.f44 c44 hs44
noncomputable def c45 : Code := cd Tryz.f45
def s45 : Sig := ⟨⟨[.dat TI_, .dat TI_], []⟩, ⟨[.dat (.slice (.pair (.int .i64) (.one (.int .i64))))], []⟩⟩
def hs45 : List (List Nat × LH) := [([0, 1, 1, 1, 1], ⟨[0, 1, 5, 6, 7, 8], ⟨[.dat TI_, .dat TI_, .dat (.slice TI_), .ref 0, .dat (.int .i64), .dat (.int .i64)], [.row (.pair (.int .i64) (.one (.int .i64)))]⟩, 0⟩)]
noncomputable def h45 : How s45 := .code Tryz.f45 c45 hs45
noncomputable def c46 : Code := cd Tryz.f46
def s46 : Sig := ⟨⟨[.dat TT_, .dat TT_], []⟩, ⟨[.dat TI_, .dat TI_, .dat (.int .i64)], []⟩⟩
def hs46 : List (List Nat × LH) := []
noncomputable def h46 : How s46 := .code Tryz.f46 c46 hs46
noncomputable def c47 : Code := cd Tryz.f47
def s47 : Sig := ⟨⟨[.dat (.int .i64), .dat (.int .i64), .ptr 0 0, .ptr 1 0, .ptr 2 0, .ptr 3 0, .ptr 4 0], [.var (.int .i64), .var (.int .i64), .vrow TK_, .var TT_, .var TT_]⟩, ⟨[], [.var (.int .i64), .var (.int .i64), .vrow TK_, .var TT_, .var TT_]⟩⟩
def hs47 : List (List Nat × LH) := []
noncomputable def h47 : How s47 := .code Tryz.f47 c47 hs47
noncomputable def c48 : Code := cd Tryz.f48
def s48 : Sig := ⟨⟨[.dat TT_], []⟩, ⟨[.dat TT_], []⟩⟩
def hs48 : List (List Nat × LH) := [([0, 1, 0, 1, 1], ⟨[3, 6, 7, 8], ⟨[.ref 0, .dat TT_, .dat (.int .i64), .dat (.int .i64)], [.row TB_]⟩, 0⟩)]
noncomputable def h48 : How s48 := .code Tryz.f48 c48 hs48
noncomputable def c49 : Code := cd Tryz.f49
def s49 : Sig := ⟨⟨[.dat (.int .i64), .dat TB_], []⟩, ⟨[.dat TT_, .dat (.int .i64)], []⟩⟩
def hs49 : List (List Nat × LH) := [([0, 0, 1, 1, 1], ⟨[0, 1, 6], ⟨[.dat (.int .i64), .dat TB_, .ref 0], [.row TB_]⟩, 0⟩)]
noncomputable def h49 : How s49 := .code Tryz.f49 c49 hs49
noncomputable def c50 : Code := cd Tryz.f50
def s50 : Sig := ⟨⟨[.dat TI_, .dat TI_], []⟩, ⟨[.dat (.int .i64), .dat (.int .i64)], []⟩⟩
def hs50 : List (List Nat × LH) := [([0, 0, 1], ⟨[0, 1, 4, 5], ⟨[.dat TI_, .dat TI_, .dat (.int .i64), .dat (.int .i64)], []⟩, 0⟩), ([0, 0, 1, 1, 1], ⟨[0, 1, 4, 5], ⟨[.dat TI_, .dat TI_, .dat (.int .i64), .dat (.int .i64)], []⟩, 2⟩)]
noncomputable def h50 : How s50 := .code Tryz.f50 c50 hs50
noncomputable def c51 : Code := cd Tryz.f51
def s51 : Sig := ⟨⟨[.dat TI_, .dat TI_], []⟩, ⟨[.dat TI_, .dat TI_], []⟩⟩
def hs51 : List (List Nat × LH) := []
noncomputable def h51 : How s51 := .code Tryz.f51 c51 hs51
noncomputable def c52 : Code := cd Tryz.f52
def s52 : Sig := ⟨⟨[.dat (.int .i64), .dat (.int .i64), .dat (.int .i64)], []⟩, ⟨[.dat (.int .i64), .dat (.int .i64), .dat .bool], []⟩⟩
def hs52 : List (List Nat × LH) := []
noncomputable def h52 : How s52 := .code Tryz.f52 c52 hs52
noncomputable def c54 : Code := cd Tryz.f54
def s54 : Sig := ⟨⟨[.dat (.pair (.int .i64) (.one TI_)), .dat (.int .i64)], []⟩, ⟨[.dat (.int .i64)], []⟩⟩
def hs54 : List (List Nat × LH) := []
noncomputable def h54 : How s54 := .code Tryz.f54 c54 hs54
noncomputable def c55 : Code := cd Tryz.f55
def s55 : Sig := ⟨⟨[.dat (.int .i64), .dat (.int .i64), .dat (.int .i64)], []⟩, ⟨[.dat (.int .i64)], []⟩⟩
def hs55 : List (List Nat × LH) := [([0, 1, 0, 1, 1, 1, 1, 1], ⟨[0, 1, 8, 10, 11], ⟨[.dat (.int .i64), .dat (.int .i64), .dat (.int .i64), .dat (.int .i64), .dat (.int .i64)], []⟩, 0⟩)]
noncomputable def h55 : How s55 := .code Tryz.f55 c55 hs55
noncomputable def c56 : Code := cd Tryz.f56
def s56 : Sig := ⟨⟨[.ptr 0 0], [.var (.pair TB_ (.pair (.int .i64) (.one (.int .i64))))]⟩, ⟨[.dat .bool], [.var (.pair TB_ (.pair (.int .i64) (.one (.int .i64))))]⟩⟩
def hs56 : List (List Nat × LH) := [([0, 1, 0, 1], ⟨[0, 5, 6, 7], ⟨[.ptr 0 0, .dat TI_, .dat (.int .i64), .dat (.int .i64)], [.var (.pair TB_ (.pair (.int .i64) (.one (.int .i64))))]⟩, 0⟩)]
noncomputable def h56 : How s56 := .code Tryz.f56 c56 hs56
noncomputable def c57 : Code := cd Tryz.f57
def s57 : Sig := ⟨⟨[.ptr 0 0], [.var (.pair TB_ (.pair (.int .i64) (.one (.int .i64))))]⟩, ⟨[.dat (.int .i64), .dat (.int .i64), .dat (.int .i64), .dat .bool], [.var (.pair TB_ (.pair (.int .i64) (.one (.int .i64))))]⟩⟩
def hs57 : List (List Nat × LH) := []
noncomputable def h57 : How s57 := .code Tryz.f57 c57 hs57
noncomputable def c58 : Code := cd Tryz.f58
def s58 : Sig := ⟨⟨[.ptr 0 0, .dat (.int .i64)], [.var (.pair TB_ (.pair (.int .i64) (.one (.int .i64))))]⟩, ⟨[.dat TT_, .dat (.int .i64), .dat .bool], [.var (.pair TB_ (.pair (.int .i64) (.one (.int .i64))))]⟩⟩
def hs58 : List (List Nat × LH) := [([0, 1, 0, 1], ⟨[0, 4, 10, 11], ⟨[.ptr 0 0, .ref 1, .dat (.int .i64), .dat (.int .i64)], [.var (.pair TB_ (.pair (.int .i64) (.one (.int .i64)))), .row TB_]⟩, 0⟩)]
noncomputable def h58 : How s58 := .code Tryz.f58 c58 hs58
noncomputable def c59 : Code := cd Tryz.f59
def s59 : Sig := ⟨⟨[.ptr 0 0, .dat .str], [.var (.pair TB_ (.pair (.int .i64) (.one (.int .i64))))]⟩, ⟨[.dat .bool], [.var (.pair TB_ (.pair (.int .i64) (.one (.int .i64))))]⟩⟩
def hs59 : List (List Nat × LH) := []
noncomputable def h59 : How s59 := .code Tryz.f59 c59 hs59
noncomputable def c60 : Code := cd Tryz.f60
def s60 : Sig := ⟨⟨[.dat TH_, .dat TT_], []⟩, ⟨[.dat TT_, .dat (.int .i64)], []⟩⟩
def hs60 : List (List Nat × LH) := [([0, 1, 0, 1, 1, 1, 1], ⟨[1, 6, 7, 13, 14, 15], ⟨[.dat TT_, .ref 0, .dat (.int .i64), .dat TH_, .dat (.int .i64), .dat (.int .i64)], [.row TB_]⟩, 0⟩)]
noncomputable def h60 : How s60 := .code Tryz.f60 c60 hs60
noncomputable def c61 : Code := cd Tryz.f61
def s61 : Sig := ⟨⟨[.dat TT_], []⟩, ⟨[.dat TB_], []⟩⟩
def hs61 : List (List Nat × LH) := [([0, 1, 0, 1, 1], ⟨[3, 6, 7, 8], ⟨[.ref 0, .dat TT_, .dat (.int .i64), .dat (.int .i64)], [.row (.int .u8)]⟩, 0⟩)]
noncomputable def h61 : How s61 := .code Tryz.f61 c61 hs61
noncomputable def c62 : Code := cd Tryz.f62
def s62 : Sig := ⟨⟨[.dat TH_], []⟩, ⟨[.dat .bool], []⟩⟩
def hs62 : List (List Nat × LH) := [([0, 1, 0, 1, 1], ⟨[3, 6, 7, 8], ⟨[.dat (.int .i64), .dat TH_, .dat (.int .i64), .dat (.int .i64)], []⟩, 0⟩)]
noncomputable def h62 : How s62 := .code Tryz.f62 c62 hs62
noncomputable def c63 : Code := cd Tryz.f63
def s63 : Sig := ⟨⟨[.ref 0, .dat TT_], [.row TB_]⟩, ⟨[.ref 1], [.dead, .row TB_]⟩⟩
def hs63 : List (List Nat × LH) := [([0, 1, 0, 1], ⟨[0, 7, 8, 9], ⟨[.ref 1, .dat TT_, .dat (.int .i64), .dat (.int .i64)], [.dead, .row TB_]⟩, 0⟩)]
noncomputable def h63 : How s63 := .code Tryz.f63 c63 hs63
noncomputable def c64 : Code := cd Tryz.f64
def s64 : Sig := ⟨⟨[.dat (.int .i64)], []⟩, ⟨[.dat .str], []⟩⟩
def hs64 : List (List Nat × LH) := []
noncomputable def h64 : How s64 := .code Tryz.f64 c64 hs64
noncomputable def c65 : Code := cd Tryz.f65
def s65 : Sig := ⟨⟨[.dat TB_, .dat (.int .i64), .dat (.int .u8)], []⟩, ⟨[.dat .bool], []⟩⟩
def hs65 : List (List Nat × LH) := []
noncomputable def h65 : How s65 := .code Tryz.f65 c65 hs65
noncomputable def c66 : Code := cd Tryz.f66
def s66 : Sig := ⟨⟨[.dat TB_, .dat (.int .i64)], []⟩, ⟨[.dat (.int .i64), .dat (.int .i64), .dat (.int .i64), .dat (.int .i64)], []⟩⟩
def hs66 : List (List Nat × LH) := []
noncomputable def h66 : How s66 := .code Tryz.f66 c66 hs66
noncomputable def c67 : Code := cd Tryz.f67
def s67 : Sig := ⟨⟨[.dat (.int .i64), .dat TB_, .dat (.int .i64)], []⟩, ⟨[.dat TB_, .dat (.int .i64)], []⟩⟩
def hs67 : List (List Nat × LH) := []
noncomputable def h67 : How s67 := .code Tryz.f67 c67 hs67
noncomputable def c68 : Code := cd Tryz.f68
def s68 : Sig := ⟨⟨[.dat TH_], []⟩, ⟨[.dat .bool], []⟩⟩
def hs68 : List (List Nat × LH) := [([0, 1, 0, 1], ⟨[0, 3], ⟨[.dat TH_, .dat (.int .i64)], []⟩, 0⟩), ([0, 1, 0, 1, 1, 1, 0, 0, 1, 0, 0, 1, 0, 1], ⟨[0, 3, 4, 5], ⟨[.dat TH_, .dat (.int .i64), .ptr 0 0, .dat (.int .i64)], [.var TK_]⟩, 2⟩), ([0, 1, 1, 1, 1, 1, 0, 0, 1, 0, 0, 1, 0, 1], ⟨[0, 3, 4, 6], ⟨[.dat TH_, .dat (.int .i64), .ptr 0 0, .dat (.int .i64)], [.var TK_]⟩, 4⟩)]
noncomputable def h68 : How s68 := .code Tryz.f68 c68 hs68
noncomputable def c69 : Code := cd Tryz.f69
def s69 : Sig := ⟨⟨[.dat (.int .i64), .dat TB_], []⟩, ⟨[.dat TT_, .dat (.int .i64)], []⟩⟩
def hs69 : List (List Nat × LH) := [([0, 1, 0, 1, 1, 1, 1], ⟨[0, 1, 6, 7, 8], ⟨[.dat (.int .i64), .dat TB_, .ref 0, .dat (.int .i64), .dat (.int .i64)], [.row TB_]⟩, 0⟩)]
noncomputable def h69 : How s69 := .code Tryz.f69 c69 hs69
noncomputable def c70 : Code := cd Tryz.f70
def s70 : Sig := ⟨⟨[.dat TB_, .dat TB_], []⟩, ⟨[.dat (.int .i64)], []⟩⟩
def hs70 : List (List Nat × LH) := [([0, 1, 1, 1, 1], ⟨[0, 1, 5], ⟨[.dat TB_, .dat TB_, .dat (.int .i64)], []⟩, 0⟩)]
noncomputable def h70 : How s70 := .code Tryz.f70 c70 hs70
noncomputable def c71 : Code := cd Tryz.f71
def s71 : Sig := ⟨⟨[.dat (.int .i64), .dat (.pair (.int .i64) (.pair (.int .i64) (.pair (.int .i64) (.one (.int .i64)))))], []⟩, ⟨[.dat (.int .i64), .dat (.int .i64)], []⟩⟩
def hs71 : List (List Nat × LH) := []
noncomputable def h71 : How s71 := .code Tryz.f71 c71 hs71
noncomputable def c72 : Code := cd Tryz.f72
def s72 : Sig := ⟨⟨[.dat (.int .i64), .dat (.pair (.int .i64) (.pair (.int .i64) (.pair (.int .i64) (.one (.int .i64)))))], []⟩, ⟨[.dat (.int .i64), .dat (.int .i64)], []⟩⟩
def hs72 : List (List Nat × LH) := []
noncomputable def h72 : How s72 := .code Tryz.f72 c72 hs72
noncomputable def c97 : Code := cd Tryz.f97
def s97 : Sig := ⟨⟨[.dat TI_, .dat (.int .i64)], []⟩, ⟨[.dat .bool], []⟩⟩
def hs97 : List (List Nat × LH) := []
noncomputable def h97 : How s97 := .code Tryz.f97 c97 hs97
noncomputable def c98 : Code := cd Tryz.f98
def s98 : Sig := ⟨⟨[.dat (.slice TI_), .dat TI_, .dat TI_, .dat (.int .i64), .dat (.int .i64)], []⟩, ⟨[.dat (.pair (.int .i64) (.one (.int .i64))), .dat .bool], []⟩⟩
def hs98 : List (List Nat × LH) := [([0, 1, 0, 0, 1, 0, 0, 1, 0, 1, 1, 1], ⟨[0, 1, 2, 4, 10, 12, 13, 14], ⟨[.dat (.slice TI_), .dat TI_, .dat TI_, .dat (.int .i64), .ptr 0 0, .dat (.int .i64), .dat (.int .i64), .dat (.int .i64)], [.var (.pair (.int .i64) (.one (.int .i64)))]⟩, 2⟩), ([0, 1, 0, 1, 1, 1], ⟨[0, 1, 2, 4, 10, 12, 13], ⟨[.dat (.slice TI_), .dat TI_, .dat TI_, .dat (.int .i64), .ptr 0 0, .dat (.int .i64), .dat (.int .i64)], [.var (.pair (.int .i64) (.one (.int .i64)))]⟩, 0⟩)]
noncomputable def h98 : How s98 := .code Tryz.f98 c98 hs98
noncomputable def c99 : Code := cd Tryz.f99
def s99 : Sig := ⟨⟨[.dat TT_], []⟩, ⟨[.dat TT_], []⟩⟩
def hs99 : List (List Nat × LH) := [([0, 1, 0, 1, 1, 1, 1, 1], ⟨[4, 16, 17, 18], ⟨[.ref 0, .ref 1, .dat (.int .i64), .dat (.int .i64)], [.row TB_, .row TB_]⟩, 0⟩)]
noncomputable def h99 : How s99 := .code Tryz.f99 c99 hs99
noncomputable def c100 : Code := cd Tryz.f100
def s100 : Sig := ⟨⟨[.dat (.slice TT_)], []⟩, ⟨[.dat TT_], []⟩⟩
def hs100 : List (List Nat × LH) := [([0, 1, 0, 1, 1], ⟨[0, 3, 9, 10, 11], ⟨[.dat (.slice TT_), .dat (.int .i64), .dat (.slice TT_), .dat (.int .i64), .dat (.int .i64)], []⟩, 0⟩), ([0, 1, 0, 1, 1, 1, 1], ⟨[6, 25, 26, 27], ⟨[.ref 0, .dat (.slice TT_), .dat (.int .i64), .dat (.int .i64)], [.row TB_]⟩, 2⟩)]
noncomputable def h100 : How s100 := .code Tryz.f100 c100 hs100
noncomputable def c101 : Code := cd Tryz.f101
def s101 : Sig := ⟨⟨[.dat TT_, .dat TT_], []⟩, ⟨[.dat TI_, .dat .bool], []⟩⟩
def hs101 : List (List Nat × LH) := [([0, 1, 0, 1, 1], ⟨[0, 6, 14, 15, 16], ⟨[.dat TT_, .ref 0, .dat TT_, .dat (.int .i64), .dat (.int .i64)], [.row (.int .i64)]⟩, 0⟩)]
noncomputable def h101 : How s101 := .code Tryz.f101 c101 hs101
noncomputable def c103 : Code := cd Tryz.f103
def s103 : Sig := ⟨⟨[.dat (.int .i64)], []⟩, ⟨[.dat .bool], []⟩⟩
def hs103 : List (List Nat × LH) := []
noncomputable def h103 : How s103 := .code Tryz.f103 c103 hs103
noncomputable def c104 : Code := cd Tryz.f104
def s104 : Sig := ⟨⟨[.dat TB_, .dat (.int .u8)], []⟩, ⟨[.dat (.int .i64)], []⟩⟩
def hs104 : List (List Nat × LH) := []
noncomputable def h104 : How s104 := .code Tryz.f104 c104 hs104
noncomputable def c106 : Code := cd Tryz.f106
def s106 : Sig := ⟨⟨[.dat (.int .i64)], []⟩, ⟨[.dat .bool], []⟩⟩
def hs106 : List (List Nat × LH) := []
noncomputable def h106 : How s106 := .code Tryz.f106 c106 hs106
noncomputable def c107 : Code := cd Tryz.f107
def s107 : Sig := ⟨⟨[.dat (.int .i64)], []⟩, ⟨[.dat .str], []⟩⟩
def hs107 : List (List Nat × LH) := []
noncomputable def h107 : How s107 := .code Tryz.f107 c107 hs107
noncomputable def c108 : Code := cd Tryz.f108
def s108 : Sig := ⟨⟨[.ptr 0 0], [.var (.pair TB_ (.pair (.int .i64) (.one (.int .i64))))]⟩, ⟨[.dat (.int .i64), .dat .bool], [.var (.pair TB_ (.pair (.int .i64) (.one (.int .i64))))]⟩⟩
def hs108 : List (List Nat × LH) := [([0, 0, 1, 1], ⟨[0, 4, 5], ⟨[.ptr 0 0, .dat (.int .i64), .dat (.int .i64)], [.var (.pair TB_ (.pair (.int .i64) (.one (.int .i64))))]⟩, 0⟩)]
noncomputable def h108 : How s108 := .code Tryz.f108 c108 hs108
noncomputable def c109 : Code := cd Tryz.f109
def s109 : Sig := ⟨⟨[.ptr 0 0], [.var (.pair TB_ (.pair (.int .i64) (.one (.int .i64))))]⟩, ⟨[.dat TB_, .dat .bool], [.var (.pair TB_ (.pair (.int .i64) (.one (.int .i64))))]⟩⟩
def hs109 : List (List Nat × LH) := []
noncomputable def h109 : How s109 := .code Tryz.f109 c109 hs109
noncomputable def c110 : Code := cd Tryz.f110
def s110 : Sig := ⟨⟨[.dat TB_, .dat TB_], []⟩, ⟨[.dat .bool], []⟩⟩
def hs110 : List (List Nat × LH) := []
noncomputable def h110 : How s110 := .code Tryz.f110 c110 hs110
noncomputable def c111 : Code := cd Tryz.f111
def s111 : Sig := ⟨⟨[.dat TT_, .dat TT_, .dat (.int .i64)], []⟩, ⟨[.dat .bool], []⟩⟩
def hs111 : List (List Nat × LH) := []
noncomputable def h111 : How s111 := .code Tryz.f111 c111 hs111
noncomputable def c112 : Code := cd Tryz.f112
def s112 : Sig := ⟨⟨[.dat TT_], []⟩, ⟨[.dat .bool], []⟩⟩
def hs112 : List (List Nat × LH) := [([0, 1, 0, 1], ⟨[5, 6, 7], ⟨[.dat TT_, .dat (.int .i64), .dat (.int .i64)], []⟩, 0⟩)]
noncomputable def h112 : How s112 := .code Tryz.f112 c112 hs112
noncomputable def c113 : Code := cd Tryz.f113
def s113 : Sig := ⟨⟨[.dat TB_, .dat (.int .i64), .dat (.int .i64)], []⟩, ⟨[.dat (.int .i64), .dat (.int .i64)], []⟩⟩
def hs113 : List (List Nat × LH) := [([0, 0, 1, 1], ⟨[0, 1, 2, 8, 9], ⟨[.dat TB_, .dat (.int .i64), .dat (.int .i64), .dat (.int .i64), .dat (.int .i64)], []⟩, 0⟩)]
noncomputable def h113 : How s113 := .code Tryz.f113 c113 hs113
noncomputable def c114 : Code := cd Tryz.f114
def s114 : Sig := ⟨⟨[.dat (.int .i64), .dat TB_], []⟩, ⟨[.dat .bool], []⟩⟩
def hs114 : List (List Nat × LH) := [([0, 1, 0, 1, 1, 1], ⟨[1, 5], ⟨[.dat TB_, .dat (.int .i64)], []⟩, 0⟩)]
noncomputable def h114 : How s114 := .code Tryz.f114 c114 hs114
noncomputable def c115 : Code := cd Tryz.f115
def s115 : Sig := ⟨⟨[.dat TB_], []⟩, ⟨[.dat (.int .i64)], []⟩⟩
def hs115 : List (List Nat × LH) := [([0, 0, 1, 1, 1], ⟨[0, 3, 4], ⟨[.dat TB_, .dat (.int .i64), .dat (.int .i64)], []⟩, 0⟩)]
noncomputable def h115 : How s115 := .code Tryz.f115 c115 hs115
noncomputable def c117 : Code := cd Tryz.f117
def s117 : Sig := ⟨⟨[.dat TB_, .dat TB_], []⟩, ⟨[.dat (.int .i64)], []⟩⟩
def hs117 : List (List Nat × LH) := [([0, 0, 1, 1, 1, 1, 1, 1, 0, 1, 1, 1, 1, 1, 1, 1, 1, 1, 0, 0, 1, 1], ⟨[0, 1, 5, 6, 7, 8, 9, 10], ⟨[.dat TB_, .dat TB_, .dat (.int .i64), .dat (.int .u8), .dat (.int .u8), .dat (.int .i64), .dat (.int .i64), .dat (.int .i64)], []⟩, 1⟩), ([0, 0, 1, 1, 1, 1, 1, 1, 1, 1], ⟨[0, 1, 5, 13, 14, 15, 16, 17], ⟨[.dat TB_, .dat TB_, .dat (.int .i64), .dat (.int .u8), .dat (.int .u8), .dat (.int .i64), .dat (.int .i64), .dat (.int .i64)], []⟩, 3⟩)]
noncomputable def h117 : How s117 := .code Tryz.f117 c117 hs117
noncomputable def c118 : Code := cd Tryz.f118
def s118 : Sig := ⟨⟨[.dat (.int .i64), .dat (.pair (.int .i64) (.pair (.int .i64) (.pair (.int .i64) (.one (.int .i64)))))], []⟩, ⟨[.dat .bool], []⟩⟩
def hs118 : List (List Nat × LH) := []
noncomputable def h118 : How s118 := .code Tryz.f118 c118 hs118
noncomputable def c119 : Code := cd Tryz.f119
def s119 : Sig := ⟨⟨[.dat (.int .i64), .dat (.int .i64)], []⟩, ⟨[.dat (.int .i64)], []⟩⟩
def hs119 : List (List Nat × LH) := []
noncomputable def h119 : How s119 := .code Tryz.f119 c119 hs119
noncomputable def c120 : Code := cd Tryz.f120
def s120 : Sig := ⟨⟨[.dat (.int .i64)], []⟩, ⟨[.dat (.int .i64)], []⟩⟩
def hs120 : List (List Nat × LH) := []
noncomputable def h120 : How s120 := .code Tryz.f120 c120 hs120
noncomputable def c143 : Code := cd Tryz.f143
def s143 : Sig := ⟨⟨[.dat TB_, .dat TB_], []⟩, ⟨[.dat (.int .i64)], []⟩⟩
def hs143 : List (List Nat × LH) := []
noncomputable def h143 : How s143 := .code Tryz.f143 c143 hs143
noncomputable def c145 : Code := cd Tryz.f145
def s145 : Sig := ⟨⟨[.dat TB_, .dat TB_], []⟩, ⟨[.dat .bool], []⟩⟩
def hs145 : List (List Nat × LH) := []
noncomputable def h145 : How s145 := .code Tryz.f145 c145 hs145
noncomputable def c147 : Code := cd Tryz.f147
def s147 : Sig := ⟨⟨[.dat TT_, .dat TB_], []⟩, ⟨[.dat (.int .i64), .dat .bool], []⟩⟩
def hs147 : List (List Nat × LH) := []
noncomputable def h147 : How s147 := .code Tryz.f147 c147 hs147
noncomputable def c149 : Code := cd Tryz.f149
def s149 : Sig := ⟨⟨[.dat (.int .i64), .dat TB_], []⟩, ⟨[.dat .bool], []⟩⟩
def hs149 : List (List Nat × LH) := []
noncomputable def h149 : How s149 := .code Tryz.f149 c149 hs149
noncomputable def c150 : Code := cd Tryz.f150
def s150 : Sig := ⟨⟨[.dat TT_, .dat TT_, .fnc 145 []], []⟩, ⟨[.dat .bool], []⟩⟩
def hs150 : List (List Nat × LH) := [([0, 1, 0, 1, 1], ⟨[1, 2, 15, 16, 17], ⟨[.dat TT_, .fnc 145 [], .dat TT_, .dat (.int .i64), .dat (.int .i64)], []⟩, 0⟩)]
noncomputable def h150 : How s150 := .code Tryz.f150 c150 hs150
noncomputable def c151 : Code := cd Tryz.f151
def s151 : Sig := ⟨⟨[.dat .str], []⟩, ⟨[.dat (.int .i64)], []⟩⟩
def hs151 : List (List Nat × LH) := [([0, 1, 0, 1], ⟨[2, 4], ⟨[.dat (.int .i64), .skip], []⟩, 0⟩)]
noncomputable def h151 : How s151 := .code Tryz.f151 c151 hs151
noncomputable def c153 : Code := cd Tryz.f153
def s153 : Sig := ⟨⟨[.dat (.int .i64)], []⟩, ⟨[.dat (.int .i64)], []⟩⟩
def hs153 : List (List Nat × LH) := []
noncomputable def h153 : How s153 := .code Tryz.f153 c153 hs153
noncomputable def c154 : Code := cd Tryz.f154
def s154 : Sig := ⟨⟨[.dat TB_, .dat TB_], []⟩, ⟨[.dat (.int .i64)], []⟩⟩
def hs154 : List (List Nat × LH) := [([0, 1, 0, 1, 1, 1, 1], ⟨[0, 1, 5, 6, 7, 8, 9], ⟨[.dat TB_, .dat TB_, .dat (.int .u32), .dat (.int .u32), .dat (.int .i64), .dat (.int .u32), .dat (.int .i64)], []⟩, 0⟩), ([0, 1, 0, 1, 1, 1, 1, 1, 1], ⟨[0, 1, 5, 6, 7, 8, 10], ⟨[.dat TB_, .dat TB_, .dat (.int .u32), .dat (.int .u32), .dat (.int .i64), .dat (.int .u32), .dat (.int .i64)], []⟩, 2⟩)]
noncomputable def h154 : How s154 := .code Tryz.f154 c154 hs154
noncomputable def c155 : Code := cd Tryz.f155
def s155 : Sig := ⟨⟨[.dat (.pair (.int .i64) (.pair (.int .i64) (.pair (.int .i64) (.one (.int .i64)))))], []⟩, ⟨[.dat .bool], []⟩⟩
def hs155 : List (List Nat × LH) := []
noncomputable def h155 : How s155 := .code Tryz.f155 c155 hs155
noncomputable def c156 : Code := cd Tryz.f156
def s156 : Sig := ⟨⟨[.dat (.int .u64)], []⟩, ⟨[.dat (.int .i64)], []⟩⟩
def hs156 : List (List Nat × LH) := []
noncomputable def h156 : How s156 := .code Tryz.f156 c156 hs156
noncomputable def c176 : Code := cd Tryz.f176
def s176 : Sig := ⟨⟨[.dat TT_, .dat TB_, .fnc 143 []], []⟩, ⟨[.dat (.int .i64), .dat .bool], []⟩⟩
def hs176 : List (List Nat × LH) := [([0, 0, 1, 1, 1], ⟨[0, 1, 2, 8, 9, 10], ⟨[.dat TT_, .dat TB_, .fnc 143 [], .dat (.int .i64), .dat (.int .i64), .dat (.int .i64)], []⟩, 0⟩)]
noncomputable def h176 : How s176 := .code Tryz.f176 c176 hs176
noncomputable def c177 : Code := cd Tryz.f177
def s177 : Sig := ⟨⟨[.dat TB_], []⟩, ⟨[.dat (.int .u32), .dat (.int .u32)], []⟩⟩
def hs177 : List (List Nat × LH) := [([0, 1, 0, 1, 1], ⟨[0, 4, 5], ⟨[.dat TB_, .dat (.int .u32), .dat (.int .i64)], []⟩, 0⟩), ([0, 1, 0, 1, 1, 1, 1], ⟨[4, 6, 7, 8], ⟨[.dat (.int .u32), .dat (.int .u32), .dat (.int .u32), .dat (.int .i64)], []⟩, 2⟩)]
noncomputable def h177 : How s177 := .code Tryz.f177 c177 hs177
noncomputable def c178 : Code := cd Tryz.f178
def s178 : Sig := ⟨⟨[.dat (.int .i64)], []⟩, ⟨[.dat .bool], []⟩⟩
def hs178 : List (List Nat × LH) := []
noncomputable def h178 : How s178 := .code Tryz.f178 c178 hs178
noncomputable def c179 : Code := cd Tryz.f179
def s179 : Sig := ⟨⟨[.dat (.int .u32)], []⟩, ⟨[.dat (.int .i64)], []⟩⟩
def hs179 : List (List Nat × LH) := []
noncomputable def h179 : How s179 := .code Tryz.f179 c179 hs179
noncomputable def c180 : Code := cd Tryz.f180
def s180 : Sig := ⟨⟨[.dat (.int .u64)], []⟩, ⟨[.dat (.int .i64)], []⟩⟩
def hs180 : List (List Nat × LH) := []
noncomputable def h180 : How s180 := .code Tryz.f180 c180 hs180
def s30 : Sig := ⟨⟨[.dat TI_, .dat TI_], []⟩, ⟨[.dat (.pair (.int .i64) (.pair (.int .i64) (.pair (.int .i64) (.one (.int .i64)))))], []⟩⟩
def h30 : How s30 := .orc (fun _ x => PortX.shapeO x)
def s53 : Sig := ⟨⟨[.dat TI_, .dat TI_, .dat (.int .i64), .dat (.int .i64), .dat (.int .i64), .dat (.pair (.int .i64) (.one TI_))], []⟩, ⟨[.dat (.pair (.int .i64) (.one TI_))], []⟩⟩
def h53 : How s53 := .orc (fun _ x => PortX.nextB x)
def s73 : Sig := ⟨⟨[.dat TI_, .dat TI_], []⟩, ⟨[.dat (.slice TI_)], []⟩⟩
def h73 : How s73 := .orc (fun _ x => PortX.behG x)
def s102 : Sig := ⟨⟨[.dat TB_], []⟩, ⟨[.dat TB_], []⟩⟩
def h102 : How s102 := .orc (fun _ x => BytesX.cloneB x)
def s105 : Sig := ⟨⟨[.dat TI_], []⟩, ⟨[.dat TI_], []⟩⟩
def h105 : How s105 := .orc (fun _ x => PortX.cloneI x)
def s116 : Sig := ⟨⟨[.dat TB_, .dat (.int .u8)], []⟩, ⟨[.dat (.int .i64)], []⟩⟩
def h116 : How s116 := .orc (fun _ x => PortX.countB x)
def s141 : Sig := ⟨⟨[.dat TT_], []⟩, ⟨[.ref 0], [.row TB_]⟩⟩
def h141 : How s141 := .orc (fun _ x => NameX.cloneR x)
def s142 : Sig := ⟨⟨[.ref 0, .fnc 143 []], [.row TB_]⟩, ⟨[], [.row TB_]⟩⟩
def h142 : How s142 := .orc (fun _ x => NameX.sortR x)
def s144 : Sig := ⟨⟨[.ref 0, .fnc 145 []], [.row TB_]⟩, ⟨[.ref 1], [.dead, .row TB_]⟩⟩
def h144 : How s144 := .orc (fun _ x => NameX.compactR x)
def s146 : Sig := ⟨⟨[.ref 0, .dat (.int .i64)], [.row TB_]⟩, ⟨[.ref 1], [.dead, .row TB_]⟩⟩
def h146 : How s146 := .orc (fun _ x => NameX.growR x)
def s148 : Sig := ⟨⟨[.dat TB_, .dat (.int .u8)], []⟩, ⟨[.dat (.int .i64)], []⟩⟩
def h148 : How s148 := .orc (fun _ x => BytesX.indexB x)
def s175 : Sig := ⟨⟨[.dat TB_, .dat TB_], []⟩, ⟨[.dat (.int .i64)], []⟩⟩
def h175 : How s175 := .orc (fun _ x => NameX.cmpB x)
noncomputable def E : Env := {
  fns := [⟨Sig.none, .none⟩,
    ⟨Sig.none, .none⟩,
    ⟨Sig.none, .none⟩,
    ⟨Sig.none, .none⟩,
    ⟨s4, h4⟩,
    ⟨s5, h5⟩,
    ⟨s6, h6⟩,
    ⟨s7, h7⟩,
    ⟨s8, h8⟩,
    ⟨s9, h9⟩,
    ⟨s10, h10⟩,
    ⟨s11, h11⟩,
    ⟨s12, h12⟩,
    ⟨s13, h13⟩,
    ⟨s14, h14⟩,
    ⟨s15, h15⟩,
    ⟨s16, h16⟩,
    ⟨s17, h17⟩,
    ⟨s18, h18⟩,
    ⟨s19, h19⟩,
    ⟨s20, h20⟩,
    ⟨s21, h21⟩,
    ⟨s22, h22⟩,
    ⟨s23, h23⟩,
    ⟨s24, h24⟩,
    ⟨s25, h25⟩,
    ⟨s26, h26⟩,
    ⟨s27, h27⟩,
    ⟨s28, h28⟩,
    ⟨s29, h29⟩,
    ⟨s30, h30⟩,
    ⟨s31, h31⟩,
    ⟨s32, h32⟩,
    ⟨s33, h33⟩,
    ⟨Sig.none, .none⟩,
    ⟨Sig.none, .none⟩,
    ⟨Sig.none, .none⟩,
    ⟨Sig.none, .none⟩,
    ⟨Sig.none, .none⟩,
    ⟨Sig.none, .none⟩,
    ⟨Sig.none, .none⟩,
    ⟨Sig.none, .none⟩,
    ⟨s42, h42⟩,
    ⟨s43, h43⟩,
    ⟨s44, h44⟩,
    ⟨s45, h45⟩,
    ⟨s46, h46⟩,
    ⟨s47, h47⟩,
    ⟨s48, h48⟩,
    ⟨s49, h49⟩,
    ⟨s50, h50⟩,
    ⟨s51, h51⟩,
    ⟨s52, h52⟩,
    ⟨s53, h53⟩,
    ⟨s54, h54⟩,
    ⟨s55, h55⟩,
    ⟨s56, h56⟩,
    ⟨s57, h57⟩,
    ⟨s58, h58⟩,
    ⟨s59, h59⟩,
    ⟨s60, h60⟩,
    ⟨s61, h61⟩,
    ⟨s62, h62⟩,
    ⟨s63, h63⟩,
    ⟨s64, h64⟩,
    ⟨s65, h65⟩,
    ⟨s66, h66⟩,
    ⟨s67, h67⟩,
    ⟨s68, h68⟩,
    ⟨s69, h69⟩,
    ⟨s70, h70⟩,
    ⟨s71, h71⟩,
    ⟨s72, h72⟩,
    ⟨s73, h73⟩,
    ⟨Sig.none, .none⟩,
    ⟨Sig.none, .none⟩,
    ⟨Sig.none, .none⟩,
    ⟨Sig.none, .none⟩,
    ⟨Sig.none, .none⟩,
    ⟨Sig.none, .none⟩,
    ⟨Sig.none, .none⟩,
    ⟨Sig.none, .none⟩,
    ⟨Sig.none, .none⟩,
    ⟨Sig.none, .none⟩,
    ⟨Sig.none, .none⟩,
    ⟨Sig.none, .none⟩,
    ⟨Sig.none, .none⟩,
    ⟨Sig.none, .none⟩,
    ⟨Sig.none, .none⟩,
    ⟨Sig.none, .none⟩,
    ⟨Sig.none, .none⟩,
    ⟨Sig.none, .none⟩,
    ⟨Sig.none, .none⟩,
    ⟨Sig.none, .none⟩,
    ⟨Sig.none, .none⟩,
    ⟨Sig.none, .none⟩,
    ⟨Sig.none, .none⟩,
    ⟨s97, h97⟩,
    ⟨s98, h98⟩,
    ⟨s99, h99⟩,
    ⟨s100, h100⟩,
    ⟨s101, h101⟩,
    ⟨s102, h102⟩,
    ⟨s103, h103⟩,
    ⟨s104, h104⟩,
    ⟨s105, h105⟩,
    ⟨s106, h106⟩,
    ⟨s107, h107⟩,
    ⟨s108, h108⟩,
    ⟨s109, h109⟩,
    ⟨s110, h110⟩,
    ⟨s111, h111⟩,
    ⟨s112, h112⟩,
    ⟨s113, h113⟩,
    ⟨s114, h114⟩,
    ⟨s115, h115⟩,
    ⟨s116, h116⟩,
    ⟨s117, h117⟩,
    ⟨s118, h118⟩,
    ⟨s119, h119⟩,
    ⟨s120, h120⟩,
    ⟨Sig.none, .none⟩,
    ⟨Sig.none, .none⟩,
    ⟨Sig.none, .none⟩,
    ⟨Sig.none, .none⟩,
    ⟨Sig.none, .none⟩,
    ⟨Sig.none, .none⟩,
    ⟨Sig.none, .none⟩,
    ⟨Sig.none, .none⟩,
    ⟨Sig.none, .none⟩,
    ⟨Sig.none, .none⟩,
    ⟨Sig.none, .none⟩,
    ⟨Sig.none, .none⟩,
    ⟨Sig.none, .none⟩,
    ⟨Sig.none, .none⟩,
    ⟨Sig.none, .none⟩,
    ⟨Sig.none, .none⟩,
    ⟨Sig.none, .none⟩,
    ⟨Sig.none, .none⟩,
    ⟨Sig.none, .none⟩,
    ⟨Sig.none, .none⟩,
    ⟨s141, h141⟩,
    ⟨s142, h142⟩,
    ⟨s143, h143⟩,
    ⟨s144, h144⟩,
    ⟨s145, h145⟩,
    ⟨s146, h146⟩,
    ⟨s147, h147⟩,
    ⟨s148, h148⟩,
    ⟨s149, h149⟩,
    ⟨s150, h150⟩,
    ⟨s151, h151⟩,
    ⟨Sig.none, .none⟩,
    ⟨s153, h153⟩,
    ⟨s154, h154⟩,
    ⟨s155, h155⟩,
    ⟨s156, h156⟩,
    ⟨Sig.none, .none⟩,
    ⟨Sig.none, .none⟩,
    ⟨Sig.none, .none⟩,
    ⟨Sig.none, .none⟩,
    ⟨Sig.none, .none⟩,
    ⟨Sig.none, .none⟩,
    ⟨Sig.none, .none⟩,
    ⟨Sig.none, .none⟩,
    ⟨Sig.none, .none⟩,
    ⟨Sig.none, .none⟩,
    ⟨Sig.none, .none⟩,
    ⟨Sig.none, .none⟩,
    ⟨Sig.none, .none⟩,
    ⟨Sig.none, .none⟩,
    ⟨Sig.none, .none⟩,
    ⟨Sig.none, .none⟩,
    ⟨Sig.none, .none⟩,
    ⟨Sig.none, .none⟩,
    ⟨s175, h175⟩,
    ⟨s176, h176⟩,
    ⟨s177, h177⟩,
    ⟨s178, h178⟩,
    ⟨s179, h179⟩,
    ⟨s180, h180⟩],
  tys := [none,
    none,
    some ⟨(.int .i64), 0⟩,
    some ⟨(.int .i64), 0⟩,
    some ⟨.bool, 0⟩,
    some ⟨(.int .u8), 0⟩,
    some ⟨(.int .u8), 0⟩,
    some ⟨(.pair (.int .i64) (.pair (.int .i64) (.pair .bool (.one (.int .u8))))), 0⟩,
    none,
    some ⟨.str, 0⟩,
    none,
    none,
    none,
    none,
    none,
    none,
    none,
    none,
    none,
    none,
    none,
    none,
    some ⟨TB_, 1⟩,
    some ⟨(.slice (.pair (.int .i64) (.one (.int .i64)))), 16⟩,
    some ⟨TH_, 56⟩,
    none,
    some ⟨(.pair (.int .i64) (.pair (.int .i64) (.pair (.int .i64) (.pair (.int .i64) (.pair (.slice (.pair (.int .i64) (.one (.int .i64)))) (.one TH_)))))), 0⟩,
    some ⟨(.int .i64), 0⟩,
    none,
    none,
    none,
    some ⟨(.pair (.int .i64) (.one (.int .i64))), 0⟩,
    none,
    none,
    none,
    none,
    none,
    none,
    none,
    some ⟨TT_, 24⟩,
    some ⟨TI_, 8⟩,
    none,
    some ⟨(.pair TT_ (.pair TT_ (.pair TI_ (.pair TI_ (.pair (.int .i64) (.pair (.int .i64) (.pair TI_ (.one TI_)))))))), 0⟩,
    none,
    none,
    none,
    none,
    none,
    none,
    none,
    none,
    none,
    none,
    none,
    none,
    none,
    none,
    none,
    none,
    none,
    none,
    none,
    none,
    some ⟨(.pair (.int .i64) (.one (.int .i64))), 1⟩,
    none,
    none,
    none,
    none,
    none,
    none,
    some ⟨(.pair (.int .i64) (.pair (.int .i64) (.pair (.int .i64) (.one (.int .i64))))), 0⟩,
    none,
    none,
    none,
    none,
    none,
    none,
    none,
    none,
    none,
    none,
    none,
    none,
    none,
    none,
    none,
    none,
    none,
    none,
    none,
    some ⟨TK_, 0⟩,
    none,
    none,
    none,
    none,
    none,
    none,
    none,
    none,
    none,
    some ⟨(.pair (.int .i64) (.one TI_)), 0⟩,
    none,
    none,
    none,
    none,
    some ⟨(.pair TB_ (.pair (.int .i64) (.one (.int .i64)))), 0⟩,
    none,
    none,
    none,
    none,
    none,
    none,
    none,
    none,
    none,
    none,
    none,
    none,
    none,
    none,
    none,
    none,
    none,
    none,
    some ⟨(.slice TI_), 24⟩,
    none,
    none,
    none,
    none,
    none,
    none,
    none,
    none,
    none,
    some ⟨(.int .u32), 0⟩,
    none,
    none,
    none,
    none,
    none,
    none,
    none,
    none,
    none,
    none,
    none,
    none,
    none,
    none,
    none,
    none,
    none,
    none,
    none,
    none,
    none,
    none,
    none,
    none,
    none,
    none,
    none,
    none,
    none,
    none,
    none,
    none,
    none,
    none,
    none,
    none,
    none,
    none,
    none,
    none,
    none,
    none,
    none,
    none,
    none,
    none,
    none,
    none,
    none,
    none,
    none,
    none,
    none,
    none,
    none,
    none,
    none,
    none,
    none,
    none,
    none,
    none,
    none,
    none,
    none,
    none,
    none,
    none,
    none,
    none,
    none,
    none,
    none,
    none,
    none,
    none,
    none,
    none,
    none,
    none,
    none,
    none,
    none,
    none,
    some ⟨(.int .u64), 0⟩,
    some ⟨(.int .u64), 0⟩,
    none,
    none,
    none,
    none,
    some ⟨(.slice TT_), 24⟩,
    none,
    none,
    none,
    none,
    none,
    none,
    none,
    none,
    none,
    none,
    none,
    none,
    none,
    none,
    none,
    none,
    none,
    none,
    none,
    none,
    none,
    none,
    none,
    none,
    none,
    none,
    none,
    none,
    none,
    none,
    none,
    none,
    none,
    none,
    none,
    none,
    none,
    none,
    none,
    none,
    none,
    none,
    none,
    none,
    none,
    none,
    none,
    none,
    none,
    none,
    none,
    none,
    none,
    none,
    none,
    none,
    none,
    none,
    none,
    none,
    none,
    none,
    none,
    none,
    none,
    none,
    none,
    none,
    none,
    none,
    none,
    none,
    none,
    none,
    none,
    none,
    none,
    none,
    none,
    none,
    none,
    none],
  vrs := [24],
  nvs := [(24, 62)],
  vss := [(39, 114), (39, 119), (39, 120), (39, 125), (90, 15), (90, 1000092)] }
theorem tys : tysOK Tryz.prog E.tys = true := by decide +kernel
theorem ok4 (X : ExtRep) : EntryOK Tryz.prog X 4 s4 h4 := ⟨Tryz.func4, rfl, by decide, by decide⟩
theorem ok5 (X : ExtRep) : EntryOK Tryz.prog X 5 s5 h5 := ⟨Tryz.func5, rfl, by decide, by decide⟩
theorem ok6 (X : ExtRep) : EntryOK Tryz.prog X 6 s6 h6 := ⟨Tryz.func6, rfl, by decide, by decide⟩
theorem ok7 (X : ExtRep) : EntryOK Tryz.prog X 7 s7 h7 := ⟨Tryz.func7, rfl, by decide, by decide⟩
theorem ok8 (X : ExtRep) : EntryOK Tryz.prog X 8 s8 h8 := ⟨Tryz.func8, rfl, by decide, by decide⟩
theorem ok9 (X : ExtRep) : EntryOK Tryz.prog X 9 s9 h9 := ⟨Tryz.func9, rfl, by decide, by decide⟩
theorem ok10 (X : ExtRep) : EntryOK Tryz.prog X 10 s10 h10 := ⟨Tryz.func10, rfl, by decide, by decide⟩
theorem ok11 (X : ExtRep) : EntryOK Tryz.prog X 11 s11 h11 := ⟨Tryz.func11, rfl, by decide, by decide⟩
theorem ok12 (X : ExtRep) : EntryOK Tryz.prog X 12 s12 h12 := ⟨Tryz.func12, rfl, by decide, by decide⟩
theorem ok13 (X : ExtRep) : EntryOK Tryz.prog X 13 s13 h13 := ⟨Tryz.func13, rfl, by decide, by decide⟩
theorem ok14 (X : ExtRep) : EntryOK Tryz.prog X 14 s14 h14 := ⟨Tryz.func14, rfl, by decide, by decide⟩
theorem ok15 (X : ExtRep) : EntryOK Tryz.prog X 15 s15 h15 := ⟨Tryz.func15, rfl, by decide, by decide⟩
theorem ok16 (X : ExtRep) : EntryOK Tryz.prog X 16 s16 h16 := ⟨Tryz.func16, rfl, by decide, by decide⟩
theorem ok17 (X : ExtRep) : EntryOK Tryz.prog X 17 s17 h17 := ⟨Tryz.func17, rfl, by decide, by decide⟩
theorem ok18 (X : ExtRep) : EntryOK Tryz.prog X 18 s18 h18 := ⟨Tryz.func18, rfl, by decide, by decide⟩
theorem ok19 (X : ExtRep) : EntryOK Tryz.prog X 19 s19 h19 := ⟨Tryz.func19, rfl, by decide, by decide⟩
theorem ok20 (X : ExtRep) : EntryOK Tryz.prog X 20 s20 h20 := ⟨Tryz.func20, rfl, by decide, by decide⟩
theorem ok21 (X : ExtRep) : EntryOK Tryz.prog X 21 s21 h21 := ⟨Tryz.func21, rfl, by decide, by decide⟩
theorem ok22 (X : ExtRep) : EntryOK Tryz.prog X 22 s22 h22 := ⟨Tryz.func22, rfl, by decide, by decide⟩
theorem ok23 (X : ExtRep) : EntryOK Tryz.prog X 23 s23 h23 := ⟨Tryz.func23, rfl, by decide, by decide⟩
theorem ok24 (X : ExtRep) : EntryOK Tryz.prog X 24 s24 h24 := ⟨Tryz.func24, rfl, by decide, by decide⟩
theorem ok25 (X : ExtRep) : EntryOK Tryz.prog X 25 s25 h25 := ⟨Tryz.func25, rfl, by decide, by decide⟩
theorem ok26 (X : ExtRep) : EntryOK Tryz.prog X 26 s26 h26 := ⟨Tryz.func26, rfl, by decide, by decide⟩
theorem ok27 (X : ExtRep) : EntryOK Tryz.prog X 27 s27 h27 := ⟨Tryz.func27, rfl, by decide, by decide⟩
theorem ok28 (X : ExtRep) : EntryOK Tryz.prog X 28 s28 h28 := ⟨Tryz.func28, rfl, by decide, by decide⟩
theorem ok29 (X : ExtRep) : EntryOK Tryz.prog X 29 s29 h29 := ⟨Tryz.func29, rfl, by decide, by decide⟩
theorem ok31 (X : ExtRep) : EntryOK Tryz.prog X 31 s31 h31 := ⟨Tryz.func31, rfl, by decide, by decide⟩
theorem ok32 (X : ExtRep) : EntryOK Tryz.prog X 32 s32 h32 := ⟨Tryz.func32, rfl, by decide, by decide⟩
theorem ok33 (X : ExtRep) : EntryOK Tryz.prog X 33 s33 h33 := ⟨Tryz.func33, rfl, by decide, by decide⟩
theorem ok42 (X : ExtRep) : EntryOK Tryz.prog X 42 s42 h42 := ⟨Tryz.func42, rfl, by decide, by decide⟩
theorem ok43 (X : ExtRep) : EntryOK Tryz.prog X 43 s43 h43 := ⟨Tryz.func43, rfl, by decide, by decide⟩
theorem ok44 (X : ExtRep) : EntryOK Tryz.prog X 44 s44 h44 := ⟨Tryz.func44, rfl, by decide, by decide⟩
theorem ok45 (X : ExtRep) : EntryOK Tryz.prog X 45 s45 h45 := ⟨Tryz.func45, rfl, by decide, by decide⟩
theorem ok46 (X : ExtRep) : EntryOK Tryz.prog X 46 s46 h46 := ⟨Tryz.func46, rfl, by decide, by decide⟩
theorem ok47 (X : ExtRep) : EntryOK Tryz.prog X 47 s47 h47 := ⟨Tryz.func47, rfl, by decide, by decide⟩
theorem ok48 (X : ExtRep) : EntryOK Tryz.prog X 48 s48 h48 := ⟨Tryz.func48, rfl, by decide, by decide⟩
theorem ok49 (X : ExtRep) : EntryOK Tryz.prog X 49 s49 h49 := ⟨Tryz.func49, rfl, by decide, by decide⟩
theorem ok50 (X : ExtRep) : EntryOK Tryz.prog X 50 s50 h50 := ⟨Tryz.func50, rfl, by decide, by decide⟩
theorem ok51 (X : ExtRep) : EntryOK Tryz.prog X 51 s51 h51 := ⟨Tryz.func51, rfl, by decide, by decide⟩
theorem ok52 (X : ExtRep) : EntryOK Tryz.prog X 52 s52 h52 := ⟨Tryz.func52, rfl, by decide, by decide⟩
theorem ok54 (X : ExtRep) : EntryOK Tryz.prog X 54 s54 h54 := ⟨Tryz.func54, rfl, by decide, by decide⟩
theorem ok55 (X : ExtRep) : EntryOK Tryz.prog X 55 s55 h55 := ⟨Tryz.func55, rfl, by decide, by decide⟩
theorem ok56 (X : ExtRep) : EntryOK Tryz.prog X 56 s56 h56 := ⟨Tryz.func56, rfl, by decide, by decide⟩
theorem ok57 (X : ExtRep) : EntryOK Tryz.prog X 57 s57 h57 := ⟨Tryz.func57, rfl, by decide, by decide⟩
theorem ok58 (X : ExtRep) : EntryOK Tryz.prog X 58 s58 h58 := ⟨Tryz.func58, rfl, by decide, by decide⟩
theorem ok59 (X : ExtRep) : EntryOK Tryz.prog X 59 s59 h59 := ⟨Tryz.func59, rfl, by decide, by decide⟩
theorem ok60 (X : ExtRep) : EntryOK Tryz.prog X 60 s60 h60 := ⟨Tryz.func60, rfl, by decide, by decide⟩
theorem ok61 (X : ExtRep) : EntryOK Tryz.prog X 61 s61 h61 := ⟨Tryz.func61, rfl, by decide, by decide⟩
theorem ok62 (X : ExtRep) : EntryOK Tryz.prog X 62 s62 h62 := ⟨Tryz.func62, rfl, by decide, by decide⟩
theorem ok63 (X : ExtRep) : EntryOK Tryz.prog X 63 s63 h63 := ⟨Tryz.func63, rfl, by decide, by decide⟩
theorem ok64 (X : ExtRep) : EntryOK Tryz.prog X 64 s64 h64 := ⟨Tryz.func64, rfl, by decide, by decide⟩
theorem ok65 (X : ExtRep) : EntryOK Tryz.prog X 65 s65 h65 := ⟨Tryz.func65, rfl, by decide, by decide⟩
theorem ok66 (X : ExtRep) : EntryOK Tryz.prog X 66 s66 h66 := ⟨Tryz.func66, rfl, by decide, by decide⟩
theorem ok67 (X : ExtRep) : EntryOK Tryz.prog X 67 s67 h67 := ⟨Tryz.func67, rfl, by decide, by decide⟩
theorem ok68 (X : ExtRep) : EntryOK Tryz.prog X 68 s68 h68 := ⟨Tryz.func68, rfl, by decide, by decide⟩
theorem ok69 (X : ExtRep) : EntryOK Tryz.prog X 69 s69 h69 := ⟨Tryz.func69, rfl, by decide, by decide⟩
theorem ok70 (X : ExtRep) : EntryOK Tryz.prog X 70 s70 h70 := ⟨Tryz.func70, rfl, by decide, by decide⟩
theorem ok71 (X : ExtRep) : EntryOK Tryz.prog X 71 s71 h71 := ⟨Tryz.func71, rfl, by decide, by decide⟩
theorem ok72 (X : ExtRep) : EntryOK Tryz.prog X 72 s72 h72 := ⟨Tryz.func72, rfl, by decide, by decide⟩
theorem ok97 (X : ExtRep) : EntryOK Tryz.prog X 97 s97 h97 := ⟨Tryz.func97, rfl, by decide, by decide⟩
theorem ok98 (X : ExtRep) : EntryOK Tryz.prog X 98 s98 h98 := ⟨Tryz.func98, rfl, by decide, by decide⟩
theorem ok99 (X : ExtRep) : EntryOK Tryz.prog X 99 s99 h99 := ⟨Tryz.func99, rfl, by decide, by decide⟩
theorem ok100 (X : ExtRep) : EntryOK Tryz.prog X 100 s100 h100 := ⟨Tryz.func100, rfl, by decide, by decide⟩
theorem ok101 (X : ExtRep) : EntryOK Tryz.prog X 101 s101 h101 := ⟨Tryz.func101, rfl, by decide, by decide⟩
theorem ok103 (X : ExtRep) : EntryOK Tryz.prog X 103 s103 h103 := ⟨Tryz.func103, rfl, by decide, by decide⟩
theorem ok104 (X : ExtRep) : EntryOK Tryz.prog X 104 s104 h104 := ⟨Tryz.func104, rfl, by decide, by decide⟩
theorem ok106 (X : ExtRep) : EntryOK Tryz.prog X 106 s106 h106 := ⟨Tryz.func106, rfl, by decide, by decide⟩
theorem ok107 (X : ExtRep) : EntryOK Tryz.prog X 107 s107 h107 := ⟨Tryz.func107, rfl, by decide, by decide⟩
theorem ok108 (X : ExtRep) : EntryOK Tryz.prog X 108 s108 h108 := ⟨Tryz.func108, rfl, by decide, by decide⟩
theorem ok109 (X : ExtRep) : EntryOK Tryz.prog X 109 s109 h109 := ⟨Tryz.func109, rfl, by decide, by decide⟩
theorem ok110 (X : ExtRep) : EntryOK Tryz.prog X 110 s110 h110 := ⟨Tryz.func110, rfl, by decide, by decide⟩
theorem ok111 (X : ExtRep) : EntryOK Tryz.prog X 111 s111 h111 := ⟨Tryz.func111, rfl, by decide, by decide⟩
theorem ok112 (X : ExtRep) : EntryOK Tryz.prog X 112 s112 h112 := ⟨Tryz.func112, rfl, by decide, by decide⟩
theorem ok113 (X : ExtRep) : EntryOK Tryz.prog X 113 s113 h113 := ⟨Tryz.func113, rfl, by decide, by decide⟩
theorem ok114 (X : ExtRep) : EntryOK Tryz.prog X 114 s114 h114 := ⟨Tryz.func114, rfl, by decide, by decide⟩
theorem ok115 (X : ExtRep) : EntryOK Tryz.prog X 115 s115 h115 := ⟨Tryz.func115, rfl, by decide, by decide⟩
theorem ok117 (X : ExtRep) : EntryOK Tryz.prog X 117 s117 h117 := ⟨Tryz.func117, rfl, by decide, by decide⟩
theorem ok118 (X : ExtRep) : EntryOK Tryz.prog X 118 s118 h118 := ⟨Tryz.func118, rfl, by decide, by decide⟩
theorem ok119 (X : ExtRep) : EntryOK Tryz.prog X 119 s119 h119 := ⟨Tryz.func119, rfl, by decide, by decide⟩
theorem ok120 (X : ExtRep) : EntryOK Tryz.prog X 120 s120 h120 := ⟨Tryz.func120, rfl, by decide, by decide⟩
theorem ok143 (X : ExtRep) : EntryOK Tryz.prog X 143 s143 h143 := ⟨Tryz.func143, rfl, by decide, by decide⟩
theorem ok145 (X : ExtRep) : EntryOK Tryz.prog X 145 s145 h145 := ⟨Tryz.func145, rfl, by decide, by decide⟩
theorem ok147 (X : ExtRep) : EntryOK Tryz.prog X 147 s147 h147 := ⟨Tryz.func147, rfl, by decide, by decide⟩
theorem ok149 (X : ExtRep) : EntryOK Tryz.prog X 149 s149 h149 := ⟨Tryz.func149, rfl, by decide, by decide⟩
theorem ok150 (X : ExtRep) : EntryOK Tryz.prog X 150 s150 h150 := ⟨Tryz.func150, rfl, by decide, by decide⟩
theorem ok151 (X : ExtRep) : EntryOK Tryz.prog X 151 s151 h151 := ⟨Tryz.func151, rfl, by decide, by decide⟩
theorem ok153 (X : ExtRep) : EntryOK Tryz.prog X 153 s153 h153 := ⟨Tryz.func153, rfl, by decide, by decide⟩
theorem ok154 (X : ExtRep) : EntryOK Tryz.prog X 154 s154 h154 := ⟨Tryz.func154, rfl, by decide, by decide⟩
theorem ok155 (X : ExtRep) : EntryOK Tryz.prog X 155 s155 h155 := ⟨Tryz.func155, rfl, by decide, by decide⟩
theorem ok156 (X : ExtRep) : EntryOK Tryz.prog X 156 s156 h156 := ⟨Tryz.func156, rfl, by decide, by decide⟩
theorem ok176 (X : ExtRep) : EntryOK Tryz.prog X 176 s176 h176 := ⟨Tryz.func176, rfl, by decide, by decide⟩
theorem ok177 (X : ExtRep) : EntryOK Tryz.prog X 177 s177 h177 := ⟨Tryz.func177, rfl, by decide, by decide⟩
theorem ok178 (X : ExtRep) : EntryOK Tryz.prog X 178 s178 h178 := ⟨Tryz.func178, rfl, by decide, by decide⟩
theorem ok179 (X : ExtRep) : EntryOK Tryz.prog X 179 s179 h179 := ⟨Tryz.func179, rfl, by decide, by decide⟩
theorem ok180 (X : ExtRep) : EntryOK Tryz.prog X 180 s180 h180 := ⟨Tryz.func180, rfl, by decide, by decide⟩
def r4 (f8 : LI_ → LI_ → Option (LI_ × Int × Int)) (f9 : LI_ → LI_ → Option (LI_ × Int × Int)) (f10 : Unit → Option (Bool)) (f11 : LI_ → LI_ → Option (LI_ × Int × Int)) (f12 : LI_ → LI_ → Option (LI_ × Int × Int)) (a0 : LI_) (a1 : LI_) : Option (Bool) :=
Option.bind (f10 ()) fun y1 =>
let v2 : Bool := !y1
bif v2 then
some false
else
let v3 : Int := (a0.length : Int)
let v4 : Bool := decide (v3 > (400 : Int))
bif v4 == false then
let v5 : Int := (a1.length : Int)
let v6 : Bool := decide (v5 > (60 : Int))
bif v6 then
some true
else
Option.bind (f8 a0 a1) fun y7 =>
Option.bind (f11 a0 a1) fun y8 =>
Option.bind (f9 a0 a1) fun y9 =>
Option.bind (f12 a0 a1) fun y10 =>
let v11 : Bool := decide (y7.2.2 = y8.2.2)
bif v11 == true then
let v12 : Bool := decide (y7.2.1 = y8.2.1)
bif v12 == true then
let v13 : ByteArray := bytesStr y7.1
let v14 : ByteArray := bytesStr y8.1
let v15 : Bool := strEq v13 v14
bif v15 == true then
let v16 : Bool := decide (y9.2.2 = y10.2.2)
bif v16 == true then
let v17 : Bool := decide (y9.2.1 = y10.2.1)
bif v17 == true then
let v18 : ByteArray := bytesStr y9.1
let v19 : ByteArray := bytesStr y10.1
let v20 : Bool := strEq v18 v19
some v20
else
some false
else
some false
else
some false
else
some false
else
some false
else
some true
def r8 (f20 : LI_ → Option (Int × HK_ × Int × Int)) (f21 : Int → HK_ → LI_ → Option (LI_ × Int)) (a0 : LI_) (a1 : LI_) : Option (LI_ × Int × Int) :=
Option.bind (f20 a0) fun y1 =>
let v2 : Bool := !decide (y1.2.2.2 = (0 : Int))
bif v2 then
some (([] : List Int), y1.2.2.1, y1.2.2.2)
else
Option.bind (f21 y1.1 y1.2.1 a1) fun y3 =>
some (y3.1, (0 : Int), y3.2)
def r9 (f20 : LI_ → Option (Int × HK_ × Int × Int)) (f21 : Int → HK_ → LI_ → Option (LI_ × Int)) (f22 : HK_ → Option (HK_ × Int)) (a0 : LI_) (a1 : LI_) : Option (LI_ × Int × Int) :=
Option.bind (f20 a0) fun y1 =>
let v2 : Bool := !decide (y1.2.2.2 = (0 : Int))
bif v2 then
some (([] : List Int), y1.2.2.1, y1.2.2.2)
else
Option.bind (f22 y1.2.1) fun y3 =>
let v4 : Bool := !decide (y3.2 = (0 : Int))
bif v4 then
some (([] : List Int), (0 : Int), y3.2)
else
Option.bind (f21 y1.1 y3.1 a1) fun y5 =>
some (y5.1, (0 : Int), y5.2)
def r11 (f24 : LI_ → Option (Int × HK_ × Int × Int)) (f25 : HK_ → LL_ → Option (LL_ × Int)) (f26 : Int → LI_ → Option (LL_)) (f27 : LL_ → Option (LI_)) (a0 : LI_) (a1 : LI_) : Option (LI_ × Int × Int) :=
Option.bind (f24 a0) fun y1 =>
let v2 : Bool := !decide (y1.2.2.2 = (0 : Int))
bif v2 then
some (([] : List Int), y1.2.2.1, y1.2.2.2)
else
Option.bind (f26 y1.1 a1) fun y3 =>
Option.bind (f25 y1.2.1 y3) fun y4 =>
let v5 : Bool := !decide (y4.2 = (0 : Int))
bif v5 then
some (([] : List Int), (0 : Int), y4.2)
else
Option.bind (f27 y4.1) fun y6 =>
some (y6, (0 : Int), (0 : Int))
def r12 (f24 : LI_ → Option (Int × HK_ × Int × Int)) (f25 : HK_ → LL_ → Option (LL_ × Int)) (f26 : Int → LI_ → Option (LL_)) (f27 : LL_ → Option (LI_)) (f28 : HK_ → Option (HK_ × Int)) (a0 : LI_) (a1 : LI_) : Option (LI_ × Int × Int) :=
Option.bind (f24 a0) fun y1 =>
let v2 : Bool := !decide (y1.2.2.2 = (0 : Int))
bif v2 then
some (([] : List Int), y1.2.2.1, y1.2.2.2)
else
Option.bind (f28 y1.2.1) fun y3 =>
let v4 : Bool := !decide (y3.2 = (0 : Int))
bif v4 then
some (([] : List Int), (0 : Int), y3.2)
else
Option.bind (f26 y1.1 a1) fun y5 =>
Option.bind (f25 y3.1 y5) fun y6 =>
let v7 : Bool := !decide (y6.2 = (0 : Int))
bif v7 then
some (([] : List Int), (0 : Int), y6.2)
else
Option.bind (f27 y6.1) fun y8 =>
some (y8, (0 : Int), (0 : Int))
def F20_0 (f56 : (LI_ × (Int × Int)) → Option (Bool × (LI_ × (Int × Int)))) (f57 : (LI_ × (Int × Int)) → Option (Int × Int × Int × Bool × (LI_ × (Int × Int)))) (f58 : Int → (LI_ × (Int × Int)) → Option (LL_ × Int × Bool × (LI_ × (Int × Int)))) (f59 : ByteArray → (LI_ × (Int × Int)) → Option (Bool × (LI_ × (Int × Int)))) (self : (LI_ × Int × HK_ × (LI_ × (Int × Int))) → Option ((LI_ × Int × HK_ × (LI_ × (Int × Int))) ⊕ (Int × HK_ × Int × Int))) (z6 : LI_ × Int × HK_ × (LI_ × (Int × Int))) : Option ((LI_ × Int × HK_ × (LI_ × (Int × Int))) ⊕ (Int × HK_ × Int × Int)) :=
let v7 : Int := (z6.1.length : Int)
let v8 : Bool := decide (z6.2.2.2.2.1 < v7)
bif v8 == true then
if 0 ≤ z6.2.2.2.2.1 ∧ z6.2.2.2.2.1 < (z6.1.length : Int) then
let v9 : Int := z6.1.getD z6.2.2.2.2.1.toNat (0 : Int)
let v10 : Bool := decide (v9 = (64 : Int))
bif v10 then
let v11 : (Int × (LL_ × LL_)) := ((0 : Int), (([] : List LI_), ([] : List LI_)))
Option.bind (f57 z6.2.2.2) fun y12 =>
let v13 : Bool := !y12.2.2.2.1
bif v13 == false then
let v14 : Bool := decide (y12.1 ≤ z6.2.1)
bif v14 == false then
let v15 : Int := IntKind.wrap .i64 (y12.2.1 + y12.2.2.1)
let v16 : Bool := decide (v15 = (0 : Int))
bif v16 then
some (.inr ((0 : Int), ([] : List (Int × (LL_ × LL_))), z6.2.2.2.2.1, (4 : Int)))
else
let v17 : (Int × (LL_ × LL_)) := (y12.1, v11.2)
Option.bind (f58 y12.2.1 y12.2.2.2.2) fun y18 =>
let v19 : (Int × (LL_ × LL_)) := (v17.1, (y18.1, v17.2.2))
let v20 : Bool := !y18.2.2.1
bif v20 then
some (.inr ((0 : Int), ([] : List (Int × (LL_ × LL_))), y18.2.1, (4 : Int)))
else
Option.bind (f58 y12.2.2.1 y18.2.2.2) fun y21 =>
let v22 : (Int × (LL_ × LL_)) := (v19.1, (v19.2.1, y21.1))
let v23 : Bool := !y21.2.2.1
bif v23 then
some (.inr ((0 : Int), ([] : List (Int × (LL_ × LL_))), y21.2.1, (4 : Int)))
else
let v24 : HK_ := ([v22] : List (Int × (LL_ × LL_)))
if (z6.2.2.1.length + v24.length) * 56 ≤ 140737488355328 ∧ z6.2.2.1.length + v24.length ≤ 140737488355328 then
let v25 : HK_ := z6.2.2.1 ++ v24
let v26 : Int := IntKind.wrap .i64 (y12.1 + y12.2.1)
self (z6.1, v26, v25, y21.2.2.2)
else none
else
some (.inr ((0 : Int), ([] : List (Int × (LL_ × LL_))), z6.2.2.2.2.1, (4 : Int)))
else
some (.inr ((0 : Int), ([] : List (Int × (LL_ × LL_))), z6.2.2.2.2.1, (4 : Int)))
else
some (.inl (z6.1, z6.2.1, z6.2.2.1, z6.2.2.2))
else none
else
some (.inl (z6.1, z6.2.1, z6.2.2.1, z6.2.2.2))
def r20 (f56 : (LI_ × (Int × Int)) → Option (Bool × (LI_ × (Int × Int)))) (f57 : (LI_ × (Int × Int)) → Option (Int × Int × Int × Bool × (LI_ × (Int × Int)))) (f58 : Int → (LI_ × (Int × Int)) → Option (LL_ × Int × Bool × (LI_ × (Int × Int)))) (f59 : ByteArray → (LI_ × (Int × Int)) → Option (Bool × (LI_ × (Int × Int)))) (lp0 : (LI_ × Int × HK_ × (LI_ × (Int × Int))) → Option ((LI_ × Int × HK_ × (LI_ × (Int × Int))) ⊕ (Int × HK_ × Int × Int))) (a0 : LI_) : Option (Int × HK_ × Int × Int) :=
let v1 : (LI_ × (Int × Int)) := (a0, ((0 : Int), (0 : Int)))
Option.bind (f56 v1) fun y2 =>
let v3 : Bool := !y2.1
bif v3 then
some ((0 : Int), ([] : List (Int × (LL_ × LL_))), (0 : Int), (4 : Int))
else
Option.bind (lp0 (a0, (-1 : Int), ([] : List (Int × (LL_ × LL_))), y2.2)) fun s4 => onSum s4 (fun y5 =>
Option.bind (f59 (⟨#[46, 10]⟩ : ByteArray) y5.2.2.2) fun y28 =>
let v29 : Bool := !y28.1
bif v29 then
some ((0 : Int), ([] : List (Int × (LL_ × LL_))), y5.2.2.2.2.1, (4 : Int))
else
let v30 : Int := (y5.1.length : Int)
let v31 : Bool := decide (y28.2.2.1 < v30)
bif v31 then
some ((0 : Int), ([] : List (Int × (LL_ × LL_))), y28.2.2.1, (4 : Int))
else
some (y28.2.2.2, y5.2.2.1, (0 : Int), (0 : Int))) (fun o27 => some o27)
def r21 (f49 : Int → LI_ → Option (LL_ × Int)) (f60 : HK_ → LL_ → Option (LL_ × Int)) (f61 : LL_ → Option (LI_)) (a0 : Int) (a1 : HK_) (a2 : LI_) : Option (LI_ × Int) :=
Option.bind (f49 a0 a2) fun y1 =>
let v2 : Bool := !decide (y1.2 = (0 : Int))
bif v2 then
some (([] : List Int), y1.2)
else
Option.bind (f60 a1 y1.1) fun y3 =>
let v4 : Bool := !decide (y3.2 = (0 : Int))
bif v4 then
some (([] : List Int), y3.2)
else
Option.bind (f61 y3.1) fun y5 =>
some (y5, (0 : Int))
def F22_0 (f62 : HK_ → Option (Bool)) (f63 : LL_ → LL_ → Option (LL_)) (self : (Int × HK_ × Int × Int × HK_) → Option ((Int × HK_ × Int × Int × HK_) ⊕ (HK_ × Int))) (z6 : Int × HK_ × Int × Int × HK_) : Option ((Int × HK_ × Int × Int × HK_) ⊕ (HK_ × Int)) :=
let v7 : Bool := decide (z6.2.2.2.1 < z6.2.2.1)
bif v7 then
if 0 ≤ z6.2.2.2.1 ∧ z6.2.2.2.1 < (z6.2.1.length : Int) then
let v8 : (Int × (LL_ × LL_)) := z6.2.1.getD z6.2.2.2.1.toNat ((0 : Int), (([] : List LI_), ([] : List LI_)))
let v9 : Int := IntKind.wrap .i64 (v8.1 + z6.1)
let v10 : Bool := decide (v9 > (1048576 : Int))
bif v10 then
some (.inr (([] : List (Int × (LL_ × LL_))), (2 : Int)))
else
Option.bind (f63 v8.2.2 ([] : List LI_)) fun y11 =>
Option.bind (f63 v8.2.1 ([] : List LI_)) fun y12 =>
let v13 : (Int × (LL_ × LL_)) := (v9, (y11, y12))
let v14 : HK_ := ([v13] : List (Int × (LL_ × LL_)))
if (z6.2.2.2.2.length + v14.length) * 56 ≤ 140737488355328 ∧ z6.2.2.2.2.length + v14.length ≤ 140737488355328 then
let v15 : HK_ := z6.2.2.2.2 ++ v14
let v16 : Int := (v8.2.2.length : Int)
let v17 : Int := (v8.2.1.length : Int)
let v18 : Int := IntKind.wrap .i64 (v16 - v17)
let v19 : Int := IntKind.wrap .i64 (z6.1 + v18)
let v20 : Int := IntKind.wrap .i64 (z6.2.2.2.1 + (1 : Int))
self (v19, z6.2.1, z6.2.2.1, v20, v15)
else none
else none
else
some (.inl (z6.1, z6.2.1, z6.2.2.1, z6.2.2.2.1, z6.2.2.2.2))
def r22 (f62 : HK_ → Option (Bool)) (f63 : LL_ → LL_ → Option (LL_)) (lp0 : (Int × HK_ × Int × Int × HK_) → Option ((Int × HK_ × Int × Int × HK_) ⊕ (HK_ × Int))) (a0 : HK_) : Option (HK_ × Int) :=
Option.bind (f62 a0) fun y1 =>
let v2 : Bool := !y1
bif v2 then
some (([] : List (Int × (LL_ × LL_))), (1 : Int))
else
let v3 : Int := (a0.length : Int)
Option.bind (lp0 ((0 : Int), a0, v3, (0 : Int), ([] : List (Int × (LL_ × LL_))))) fun s4 => onSum s4 (fun y5 =>
some (y5.2.2.2.2, (0 : Int))) (fun o21 => some o21)
def F24_0 (f64 : Int → Option (ByteArray)) (f65 : LI_ → Int → Int → Option (Bool)) (f66 : LI_ → Int → Option (Int × Int × Int × Int)) (f67 : Int → LI_ → Int → Option (LI_ × Int)) (lp2 : (LI_ × Int × Int × Int × Int × Int × HK_ × (Int × (LL_ × LL_))) → Option ((LI_ × Int × Int × Int × Int × Int × HK_ × (Int × (LL_ × LL_))) ⊕ (Int × HK_ × Int × Int))) (self : (LI_ × Int × Int × HK_) → Option ((LI_ × Int × Int × HK_) ⊕ (Int × HK_ × Int × Int))) (z23 : LI_ × Int × Int × HK_) : Option ((LI_ × Int × Int × HK_) ⊕ (Int × HK_ × Int × Int)) :=
Option.bind (f65 z23.1 z23.2.2.1 (64 : Int)) fun y24 =>
bif y24 then
Option.bind (f66 z23.1 z23.2.2.1) fun y25 =>
let v26 : Bool := decide (y25.2.2.2 < (0 : Int))
bif v26 == false then
let v27 : Int := IntKind.wrap .i64 (y25.2.1 + y25.2.2.1)
let v28 : Bool := decide (v27 = (0 : Int))
bif v28 == false then
let v29 : Int := (z23.2.2.2.length : Int)
let v30 : Bool := decide (v29 > (0 : Int))
bif v30 == true then
let v31 : Int := (z23.2.2.2.length : Int)
let v32 : Int := IntKind.wrap .i64 (v31 - (1 : Int))
if 0 ≤ v32 ∧ v32 < (z23.2.2.2.length : Int) then
let v33 : Int := (z23.2.2.2.getD v32.toNat ((0 : Int), (([] : List LI_), ([] : List LI_)))).1
let v34 : Int := IntKind.wrap .i64 (y25.1 - v33)
let v35 : Int := (z23.2.2.2.length : Int)
let v36 : Int := IntKind.wrap .i64 (v35 - (1 : Int))
if 0 ≤ v36 ∧ v36 < (z23.2.2.2.length : Int) then
let v37 : LL_ := (z23.2.2.2.getD v36.toNat ((0 : Int), (([] : List LI_), ([] : List LI_)))).2.1
let v38 : Int := (v37.length : Int)
let v39 : Bool := decide (v34 ≤ v38)
bif v39 then
some (.inr ((0 : Int), ([] : List (Int × (LL_ × LL_))), z23.2.2.1, (4 : Int)))
else
let v40 : (Int × (LL_ × LL_)) := (y25.1, (([] : List LI_), ([] : List LI_)))
Option.bind (lp2 (z23.1, z23.2.1, y25.2.2.2, y25.2.1, y25.2.2.1, (0 : Int), z23.2.2.2, v40)) fun s41 => onSum s41 (fun y42 =>
let v58 : HK_ := ([y42.2.2.2.2.2.2.2] : List (Int × (LL_ × LL_)))
if (y42.2.2.2.2.2.2.1.length + v58.length) * 56 ≤ 140737488355328 ∧ y42.2.2.2.2.2.2.1.length + v58.length ≤ 140737488355328 then
let v59 : HK_ := y42.2.2.2.2.2.2.1 ++ v58
self (y42.1, y42.2.1, y42.2.2.1, v59)
else none) (fun o57 => some (.inr o57))
else none
else none
else
let v60 : (Int × (LL_ × LL_)) := (y25.1, (([] : List LI_), ([] : List LI_)))
Option.bind (lp2 (z23.1, z23.2.1, y25.2.2.2, y25.2.1, y25.2.2.1, (0 : Int), z23.2.2.2, v60)) fun s61 => onSum s61 (fun y62 =>
let v64 : HK_ := ([y62.2.2.2.2.2.2.2] : List (Int × (LL_ × LL_)))
if (y62.2.2.2.2.2.2.1.length + v64.length) * 56 ≤ 140737488355328 ∧ y62.2.2.2.2.2.2.1.length + v64.length ≤ 140737488355328 then
let v65 : HK_ := y62.2.2.2.2.2.2.1 ++ v64
self (y62.1, y62.2.1, y62.2.2.1, v65)
else none) (fun o63 => some (.inr o63))
else
some (.inr ((0 : Int), ([] : List (Int × (LL_ × LL_))), z23.2.2.1, (4 : Int)))
else
some (.inr ((0 : Int), ([] : List (Int × (LL_ × LL_))), z23.2.2.1, (4 : Int)))
else
some (.inl (z23.1, z23.2.1, z23.2.2.1, z23.2.2.2))
def F24_1 (f64 : Int → Option (ByteArray)) (f65 : LI_ → Int → Int → Option (Bool)) (f66 : LI_ → Int → Option (Int × Int × Int × Int)) (f67 : Int → LI_ → Int → Option (LI_ × Int)) (self : (LI_ × Int × Int × Int) → Option ((LI_ × Int × Int × Int) ⊕ (Int × HK_ × Int × Int))) (z3 : LI_ × Int × Int × Int) : Option ((LI_ × Int × Int × Int) ⊕ (Int × HK_ × Int × Int)) :=
let v4 : Bool := decide (z3.2.2.2 < (2 : Int))
bif v4 then
Option.bind (f64 z3.2.2.2) fun y5 =>
if (⟨#[116, 97, 116, 116, 105, 110, 103, 32, 49, 32]⟩ : ByteArray).size + y5.size ≤ 140737488355328 then
let v6 : ByteArray := (⟨#[116, 97, 116, 116, 105, 110, 103, 32, 49, 32]⟩ : ByteArray) ++ y5
if v6.size + (⟨#[10]⟩ : ByteArray).size ≤ 140737488355328 then
let v7 : ByteArray := v6 ++ (⟨#[10]⟩ : ByteArray)
let v8 : Int := (z3.1.length : Int)
let v9 : Int := (v7.size : Int)
let v10 : Bool := decide (v8 ≥ v9)
bif v10 == true then
let v11 : Int := (v7.size : Int)
if 0 ≤ (0 : Int) ∧ (0 : Int) ≤ v11 ∧ v11 ≤ (z3.1.length : Int) then
let v12 : LI_ := cut z3.1 (0 : Int) v11
let v13 : ByteArray := bytesStr v12
let v14 : Bool := strEq v13 v7
bif v14 then
let v15 : Int := (v7.size : Int)
let v16 : Int := IntKind.wrap .i64 (z3.2.2.2 + (1 : Int))
self (z3.1, z3.2.2.2, v15, v16)
else
let v17 : Int := IntKind.wrap .i64 (z3.2.2.2 + (1 : Int))
self (z3.1, z3.2.1, z3.2.2.1, v17)
else none
else
let v18 : Int := IntKind.wrap .i64 (z3.2.2.2 + (1 : Int))
self (z3.1, z3.2.1, z3.2.2.1, v18)
else none
else none
else
some (.inl (z3.1, z3.2.1, z3.2.2.1, z3.2.2.2))
def F24_2 (f64 : Int → Option (ByteArray)) (f65 : LI_ → Int → Int → Option (Bool)) (f66 : LI_ → Int → Option (Int × Int × Int × Int)) (f67 : Int → LI_ → Int → Option (LI_ × Int)) (self : (LI_ × Int × Int × Int × Int × Int × HK_ × (Int × (LL_ × LL_))) → Option ((LI_ × Int × Int × Int × Int × Int × HK_ × (Int × (LL_ × LL_))) ⊕ (Int × HK_ × Int × Int))) (z43 : LI_ × Int × Int × Int × Int × Int × HK_ × (Int × (LL_ × LL_))) : Option ((LI_ × Int × Int × Int × Int × Int × HK_ × (Int × (LL_ × LL_))) ⊕ (Int × HK_ × Int × Int)) :=
let v44 : Int := IntKind.wrap .i64 (z43.2.2.2.1 + z43.2.2.2.2.1)
let v45 : Bool := decide (z43.2.2.2.2.2.1 < v44)
bif v45 then
Option.bind (f67 z43.2.1 z43.1 z43.2.2.1) fun y46 =>
let v47 : Bool := decide (y46.2 < (0 : Int))
bif v47 then
some (.inr ((0 : Int), ([] : List (Int × (LL_ × LL_))), z43.2.2.1, (4 : Int)))
else
let v48 : Bool := decide (z43.2.2.2.2.2.1 < z43.2.2.2.1)
bif v48 then
let v49 : LL_ := ([y46.1] : List LI_)
if (z43.2.2.2.2.2.2.2.2.1.length + v49.length) * 24 ≤ 140737488355328 ∧ z43.2.2.2.2.2.2.2.2.1.length + v49.length ≤ 140737488355328 then
let v50 : LL_ := z43.2.2.2.2.2.2.2.2.1 ++ v49
let v51 : (Int × (LL_ × LL_)) := (z43.2.2.2.2.2.2.2.1, (v50, z43.2.2.2.2.2.2.2.2.2))
let v52 : Int := IntKind.wrap .i64 (z43.2.2.2.2.2.1 + (1 : Int))
self (z43.1, z43.2.1, y46.2, z43.2.2.2.1, z43.2.2.2.2.1, v52, z43.2.2.2.2.2.2.1, v51)
else none
else
let v53 : LL_ := ([y46.1] : List LI_)
if (z43.2.2.2.2.2.2.2.2.2.length + v53.length) * 24 ≤ 140737488355328 ∧ z43.2.2.2.2.2.2.2.2.2.length + v53.length ≤ 140737488355328 then
let v54 : LL_ := z43.2.2.2.2.2.2.2.2.2 ++ v53
let v55 : (Int × (LL_ × LL_)) := (z43.2.2.2.2.2.2.2.1, (z43.2.2.2.2.2.2.2.2.1, v54))
let v56 : Int := IntKind.wrap .i64 (z43.2.2.2.2.2.1 + (1 : Int))
self (z43.1, z43.2.1, y46.2, z43.2.2.2.1, z43.2.2.2.2.1, v56, z43.2.2.2.2.2.2.1, v55)
else none
else
some (.inl (z43.1, z43.2.1, z43.2.2.1, z43.2.2.2.1, z43.2.2.2.2.1, z43.2.2.2.2.2.1, z43.2.2.2.2.2.2.1, z43.2.2.2.2.2.2.2))
def r24 (f64 : Int → Option (ByteArray)) (f65 : LI_ → Int → Int → Option (Bool)) (f66 : LI_ → Int → Option (Int × Int × Int × Int)) (f67 : Int → LI_ → Int → Option (LI_ × Int)) (lp0 : (LI_ × Int × Int × HK_) → Option ((LI_ × Int × Int × HK_) ⊕ (Int × HK_ × Int × Int))) (lp1 : (LI_ × Int × Int × Int) → Option ((LI_ × Int × Int × Int) ⊕ (Int × HK_ × Int × Int))) (lp2 : (LI_ × Int × Int × Int × Int × Int × HK_ × (Int × (LL_ × LL_))) → Option ((LI_ × Int × Int × Int × Int × Int × HK_ × (Int × (LL_ × LL_))) ⊕ (Int × HK_ × Int × Int))) (a0 : LI_) : Option (Int × HK_ × Int × Int) :=
Option.bind (lp1 (a0, (-1 : Int), (0 : Int), (0 : Int))) fun s1 => onSum s1 (fun y2 =>
let v20 : Bool := decide (y2.2.1 < (0 : Int))
bif v20 then
some ((0 : Int), ([] : List (Int × (LL_ × LL_))), (0 : Int), (4 : Int))
else
Option.bind (lp0 (y2.1, y2.2.1, y2.2.2.1, ([] : List (Int × (LL_ × LL_))))) fun s21 => onSum s21 (fun y22 =>
Option.bind (f65 y22.1 y22.2.2.1 (46 : Int)) fun y67 =>
let v68 : Bool := !y67
bif v68 == false then
let v69 : Int := IntKind.wrap .i64 (y22.2.2.1 + (1 : Int))
Option.bind (f65 y22.1 v69 (10 : Int)) fun y70 =>
let v71 : Bool := !y70
bif v71 then
some ((0 : Int), ([] : List (Int × (LL_ × LL_))), y22.2.2.1, (4 : Int))
else
let v72 : Int := IntKind.wrap .i64 (y22.2.2.1 + (2 : Int))
let v73 : Int := (y22.1.length : Int)
let v74 : Bool := decide (v72 < v73)
bif v74 then
let v75 : Int := IntKind.wrap .i64 (y22.2.2.1 + (2 : Int))
some ((0 : Int), ([] : List (Int × (LL_ × LL_))), v75, (4 : Int))
else
some (y22.2.1, y22.2.2.2, (0 : Int), (0 : Int))
else
some ((0 : Int), ([] : List (Int × (LL_ × LL_))), y22.2.2.1, (4 : Int))) (fun o66 => some o66)) (fun o19 => some o19)
def F25_0 (f68 : HK_ → Option (Bool)) (self : (HK_ × LL_ × Int × Int × Int × LL_ × (Int × (LL_ × LL_))) → Option ((HK_ × LL_ × Int × Int × Int × LL_ × (Int × (LL_ × LL_))) ⊕ (LL_ × Int))) (z17 : HK_ × LL_ × Int × Int × Int × LL_ × (Int × (LL_ × LL_))) : Option ((HK_ × LL_ × Int × Int × Int × LL_ × (Int × (LL_ × LL_))) ⊕ (LL_ × Int)) :=
let v18 : Int := (z17.2.2.2.2.2.2.2.1.length : Int)
let v19 : Bool := decide (z17.2.2.2.2.1 < v18)
bif v19 then
let v20 : Int := IntKind.wrap .i64 (z17.2.2.2.2.2.2.1 + z17.2.2.2.2.1)
if 0 ≤ v20 ∧ v20 < (z17.2.1.length : Int) then
let v21 : LI_ := z17.2.1.getD v20.toNat ([] : List Int)
let v22 : ByteArray := bytesStr v21
if 0 ≤ z17.2.2.2.2.1 ∧ z17.2.2.2.2.1 < (z17.2.2.2.2.2.2.2.1.length : Int) then
let v23 : LI_ := z17.2.2.2.2.2.2.2.1.getD z17.2.2.2.2.1.toNat ([] : List Int)
let v24 : ByteArray := bytesStr v23
let v25 : Bool := !strEq v22 v24
bif v25 then
some (.inr (([] : List LI_), (5 : Int)))
else
let v26 : Int := IntKind.wrap .i64 (z17.2.2.2.2.1 + (1 : Int))
self (z17.1, z17.2.1, z17.2.2.1, z17.2.2.2.1, v26, z17.2.2.2.2.2.1, z17.2.2.2.2.2.2)
else none
else none
else
some (.inl (z17.1, z17.2.1, z17.2.2.1, z17.2.2.2.1, z17.2.2.2.2.1, z17.2.2.2.2.2.1, z17.2.2.2.2.2.2))
def F25_1 (f68 : HK_ → Option (Bool)) (lp0 : (HK_ × LL_ × Int × Int × Int × LL_ × (Int × (LL_ × LL_))) → Option ((HK_ × LL_ × Int × Int × Int × LL_ × (Int × (LL_ × LL_))) ⊕ (LL_ × Int))) (self : (HK_ × LL_ × Int × Int × LL_) → Option ((HK_ × LL_ × Int × Int × LL_) ⊕ (LL_ × Int))) (z5 : HK_ × LL_ × Int × Int × LL_) : Option ((HK_ × LL_ × Int × Int × LL_) ⊕ (LL_ × Int)) :=
let v6 : Int := (z5.1.length : Int)
let v7 : Bool := decide (z5.2.2.2.1 < v6)
bif v7 then
if 0 ≤ z5.2.2.2.1 ∧ z5.2.2.2.1 < (z5.1.length : Int) then
let v8 : (Int × (LL_ × LL_)) := z5.1.getD z5.2.2.2.1.toNat ((0 : Int), (([] : List LI_), ([] : List LI_)))
let v9 : Int := (z5.2.1.length : Int)
let v10 : Bool := decide (v8.1 > v9)
bif v10 == false then
let v11 : Int := (v8.2.1.length : Int)
let v12 : Int := (z5.2.1.length : Int)
let v13 : Int := IntKind.wrap .i64 (v12 - v8.1)
let v14 : Bool := decide (v11 > v13)
bif v14 then
some (.inr (([] : List LI_), (5 : Int)))
else
Option.bind (lp0 (z5.1, z5.2.1, z5.2.2.1, z5.2.2.2.1, (0 : Int), z5.2.2.2.2, v8)) fun s15 => onSum s15 (fun y16 =>
if 0 ≤ y16.2.2.1 ∧ y16.2.2.1 ≤ y16.2.2.2.2.2.2.1 ∧ y16.2.2.2.2.2.2.1 ≤ (y16.2.1.length : Int) then
let v28 : LL_ := cut y16.2.1 y16.2.2.1 y16.2.2.2.2.2.2.1
if (y16.2.2.2.2.2.1.length + v28.length) * 24 ≤ 140737488355328 ∧ y16.2.2.2.2.2.1.length + v28.length ≤ 140737488355328 then
let v29 : LL_ := y16.2.2.2.2.2.1 ++ v28
if (v29.length + y16.2.2.2.2.2.2.2.2.length) * 24 ≤ 140737488355328 ∧ v29.length + y16.2.2.2.2.2.2.2.2.length ≤ 140737488355328 then
let v30 : LL_ := v29 ++ y16.2.2.2.2.2.2.2.2
let v31 : Int := (y16.2.2.2.2.2.2.2.1.length : Int)
let v32 : Int := IntKind.wrap .i64 (y16.2.2.2.2.2.2.1 + v31)
let v33 : Int := IntKind.wrap .i64 (y16.2.2.2.1 + (1 : Int))
self (y16.1, y16.2.1, v32, v33, v30)
else none
else none
else none) (fun o27 => some (.inr o27))
else
some (.inr (([] : List LI_), (5 : Int)))
else none
else
some (.inl (z5.1, z5.2.1, z5.2.2.1, z5.2.2.2.1, z5.2.2.2.2))
def r25 (f68 : HK_ → Option (Bool)) (lp0 : (HK_ × LL_ × Int × Int × Int × LL_ × (Int × (LL_ × LL_))) → Option ((HK_ × LL_ × Int × Int × Int × LL_ × (Int × (LL_ × LL_))) ⊕ (LL_ × Int))) (lp1 : (HK_ × LL_ × Int × Int × LL_) → Option ((HK_ × LL_ × Int × Int × LL_) ⊕ (LL_ × Int))) (a0 : HK_) (a1 : LL_) : Option (LL_ × Int) :=
Option.bind (f68 a0) fun y1 =>
let v2 : Bool := !y1
bif v2 then
some (([] : List LI_), (1 : Int))
else
Option.bind (lp1 (a0, a1, (0 : Int), (0 : Int), ([] : List LI_))) fun s3 => onSum s3 (fun y4 =>
if 0 ≤ y4.2.2.1 ∧ y4.2.2.1 ≤ (y4.2.1.length : Int) ∧ (y4.2.1.length : Int) ≤ (y4.2.1.length : Int) then
let v35 : LL_ := cut y4.2.1 y4.2.2.1 (y4.2.1.length : Int)
if (y4.2.2.2.2.length + v35.length) * 24 ≤ 140737488355328 ∧ y4.2.2.2.2.length + v35.length ≤ 140737488355328 then
let v36 : LL_ := y4.2.2.2.2 ++ v35
some (v36, (0 : Int))
else none
else none) (fun o34 => some o34)
def r26 (f69 : Int → LI_ → Option (LL_ × Int)) (a0 : Int) (a1 : LI_) : Option (LL_) :=
Option.bind (f69 a0 a1) fun y1 =>
some y1.1
def F27_0 (self : (LL_ × Int × LI_) → Option ((LL_ × Int × LI_) ⊕ (LI_))) (z3 : LL_ × Int × LI_) : Option ((LL_ × Int × LI_) ⊕ (LI_)) :=
let v4 : Int := (z3.1.length : Int)
let v5 : Bool := decide (z3.2.1 < v4)
bif v5 then
if 0 ≤ z3.2.1 ∧ z3.2.1 < (z3.1.length : Int) then
let v6 : LI_ := z3.1.getD z3.2.1.toNat ([] : List Int)
if (z3.2.2.length + v6.length) * 1 ≤ 140737488355328 ∧ z3.2.2.length + v6.length ≤ 140737488355328 then
let v7 : LI_ := z3.2.2 ++ v6
let v8 : Int := IntKind.wrap .i64 (z3.2.1 + (1 : Int))
self (z3.1, v8, v7)
else none
else none
else
some (.inl (z3.1, z3.2.1, z3.2.2))
def r27 (lp0 : (LL_ × Int × LI_) → Option ((LL_ × Int × LI_) ⊕ (LI_))) (a0 : LL_) : Option (LI_) :=
Option.bind (lp0 (a0, (0 : Int), ([] : List Int))) fun s1 => onSum s1 (fun y2 =>
some y2.2.2) (fun o9 => some o9)
def F28_0 (f68 : HK_ → Option (Bool)) (self : (HK_ × Int × Int × HK_) → Option ((HK_ × Int × Int × HK_) ⊕ (HK_ × Int))) (z5 : HK_ × Int × Int × HK_) : Option ((HK_ × Int × Int × HK_) ⊕ (HK_ × Int)) :=
let v6 : Int := (z5.1.length : Int)
let v7 : Bool := decide (z5.2.2.1 < v6)
bif v7 then
if 0 ≤ z5.2.2.1 ∧ z5.2.2.1 < (z5.1.length : Int) then
let v8 : (Int × (LL_ × LL_)) := z5.1.getD z5.2.2.1.toNat ((0 : Int), (([] : List LI_), ([] : List LI_)))
let v9 : Int := IntKind.wrap .i64 (v8.1 + z5.2.1)
let v10 : Bool := decide (v9 > (1048576 : Int))
bif v10 then
some (.inr (([] : List (Int × (LL_ × LL_))), (2 : Int)))
else
if 0 ≤ z5.2.2.1 ∧ z5.2.2.1 < (z5.1.length : Int) then
let v11 : (Int × (LL_ × LL_)) := z5.1.getD z5.2.2.1.toNat ((0 : Int), (([] : List LI_), ([] : List LI_)))
if 0 ≤ z5.2.2.1 ∧ z5.2.2.1 < (z5.1.length : Int) then
let v12 : (Int × (LL_ × LL_)) := z5.1.getD z5.2.2.1.toNat ((0 : Int), (([] : List LI_), ([] : List LI_)))
let v13 : (Int × (LL_ × LL_)) := (v9, (v11.2.2, v12.2.1))
let v14 : HK_ := ([v13] : List (Int × (LL_ × LL_)))
if (z5.2.2.2.length + v14.length) * 56 ≤ 140737488355328 ∧ z5.2.2.2.length + v14.length ≤ 140737488355328 then
let v15 : HK_ := z5.2.2.2 ++ v14
if 0 ≤ z5.2.2.1 ∧ z5.2.2.1 < (z5.1.length : Int) then
let v16 : (Int × (LL_ × LL_)) := z5.1.getD z5.2.2.1.toNat ((0 : Int), (([] : List LI_), ([] : List LI_)))
let v17 : Int := (v16.2.2.length : Int)
let v18 : Int := IntKind.wrap .i64 (z5.2.1 + v17)
if 0 ≤ z5.2.2.1 ∧ z5.2.2.1 < (z5.1.length : Int) then
let v19 : (Int × (LL_ × LL_)) := z5.1.getD z5.2.2.1.toNat ((0 : Int), (([] : List LI_), ([] : List LI_)))
let v20 : Int := (v19.2.1.length : Int)
let v21 : Int := IntKind.wrap .i64 (v18 - v20)
let v22 : Int := IntKind.wrap .i64 (z5.2.2.1 + (1 : Int))
self (z5.1, v21, v22, v15)
else none
else none
else none
else none
else none
else none
else
some (.inl (z5.1, z5.2.1, z5.2.2.1, z5.2.2.2))
def r28 (f68 : HK_ → Option (Bool)) (lp0 : (HK_ × Int × Int × HK_) → Option ((HK_ × Int × Int × HK_) ⊕ (HK_ × Int))) (a0 : HK_) : Option (HK_ × Int) :=
Option.bind (f68 a0) fun y1 =>
let v2 : Bool := !y1
bif v2 then
some (([] : List (Int × (LL_ × LL_))), (1 : Int))
else
Option.bind (lp0 (a0, (0 : Int), (0 : Int), ([] : List (Int × (LL_ × LL_))))) fun s3 => onSum s3 (fun y4 =>
some (y4.2.2.2, (0 : Int))) (fun o23 => some o23)
def F49_0 (f102 : LI_ → Option (LI_)) (f103 : Int → Option (Bool)) (f104 : LI_ → Int → Option (Int)) (self : (Int × LI_ × LL_) → Option ((Int × LI_ × LL_) ⊕ (LL_ × Int))) (z5 : Int × LI_ × LL_) : Option ((Int × LI_ × LL_) ⊕ (LL_ × Int)) :=
let v6 : Int := (z5.2.1.length : Int)
let v7 : Bool := decide (v6 > (0 : Int))
bif v7 then
let v8 : Bool := decide (z5.1 = (1 : Int))
bif v8 then
Option.bind (f104 z5.2.1 (10 : Int)) fun y9 =>
let v10 : Int := IntKind.wrap .i64 (y9 + (1 : Int))
let v11 : Bool := decide (v10 = (0 : Int))
bif v11 then
let v12 : Int := (z5.2.1.length : Int)
if 0 ≤ (0 : Int) ∧ (0 : Int) ≤ v12 ∧ v12 ≤ (z5.2.1.length : Int) then
let v13 : LI_ := cut z5.2.1 (0 : Int) v12
Option.bind (f102 v13) fun y14 =>
let v15 : LL_ := ([y14] : List LI_)
if (z5.2.2.length + v15.length) * 24 ≤ 140737488355328 ∧ z5.2.2.length + v15.length ≤ 140737488355328 then
let v16 : LL_ := z5.2.2 ++ v15
if 0 ≤ v12 ∧ v12 ≤ (z5.2.1.length : Int) ∧ (z5.2.1.length : Int) ≤ (z5.2.1.length : Int) then
let v17 : LI_ := cut z5.2.1 v12 (z5.2.1.length : Int)
self (z5.1, v17, v16)
else none
else none
else none
else
if 0 ≤ (0 : Int) ∧ (0 : Int) ≤ v10 ∧ v10 ≤ (z5.2.1.length : Int) then
let v18 : LI_ := cut z5.2.1 (0 : Int) v10
Option.bind (f102 v18) fun y19 =>
let v20 : LL_ := ([y19] : List LI_)
if (z5.2.2.length + v20.length) * 24 ≤ 140737488355328 ∧ z5.2.2.length + v20.length ≤ 140737488355328 then
let v21 : LL_ := z5.2.2 ++ v20
if 0 ≤ v10 ∧ v10 ≤ (z5.2.1.length : Int) ∧ (z5.2.1.length : Int) ≤ (z5.2.1.length : Int) then
let v22 : LI_ := cut z5.2.1 v10 (z5.2.1.length : Int)
self (z5.1, v22, v21)
else none
else none
else none
else
if 0 ≤ (0 : Int) ∧ (0 : Int) ≤ (1 : Int) ∧ (1 : Int) ≤ (z5.2.1.length : Int) then
let v23 : LI_ := cut z5.2.1 (0 : Int) (1 : Int)
Option.bind (f102 v23) fun y24 =>
let v25 : LL_ := ([y24] : List LI_)
if (z5.2.2.length + v25.length) * 24 ≤ 140737488355328 ∧ z5.2.2.length + v25.length ≤ 140737488355328 then
let v26 : LL_ := z5.2.2 ++ v25
if 0 ≤ (1 : Int) ∧ (1 : Int) ≤ (z5.2.1.length : Int) ∧ (z5.2.1.length : Int) ≤ (z5.2.1.length : Int) then
let v27 : LI_ := cut z5.2.1 (1 : Int) (z5.2.1.length : Int)
self (z5.1, v27, v26)
else none
else none
else none
else
some (.inl (z5.1, z5.2.1, z5.2.2))
def r49 (f102 : LI_ → Option (LI_)) (f103 : Int → Option (Bool)) (f104 : LI_ → Int → Option (Int)) (lp0 : (Int × LI_ × LL_) → Option ((Int × LI_ × LL_) ⊕ (LL_ × Int))) (a0 : Int) (a1 : LI_) : Option (LL_ × Int) :=
Option.bind (f103 a0) fun y1 =>
let v2 : Bool := !y1
bif v2 then
some (([] : List LI_), (1 : Int))
else
Option.bind (lp0 (a0, a1, ([] : List LI_))) fun s3 => onSum s3 (fun y4 =>
some (y4.2.2, (0 : Int))) (fun o28 => some o28)
def F56_0 (f59 : ByteArray → (LI_ × (Int × Int)) → Option (Bool × (LI_ × (Int × Int)))) (f107 : Int → Option (ByteArray)) (self : (LI_ × Int × Int × (LI_ × (Int × Int))) → Option ((LI_ × Int × Int × (LI_ × (Int × Int))) ⊕ (Bool × (LI_ × (Int × Int))))) (z5 : LI_ × Int × Int × (LI_ × (Int × Int))) : Option ((LI_ × Int × Int × (LI_ × (Int × Int))) ⊕ (Bool × (LI_ × (Int × Int)))) :=
let v6 : Bool := decide (z5.2.2.1 < z5.2.1)
bif v6 then
if 0 ≤ z5.2.2.1 ∧ z5.2.2.1 < (z5.1.length : Int) then
let v7 : Int := z5.1.getD z5.2.2.1.toNat (0 : Int)
Option.bind (f107 v7) fun y8 =>
if (⟨#[116, 97, 116, 116, 105, 110, 103, 32, 49, 32]⟩ : ByteArray).size + y8.size ≤ 140737488355328 then
let v9 : ByteArray := (⟨#[116, 97, 116, 116, 105, 110, 103, 32, 49, 32]⟩ : ByteArray) ++ y8
if v9.size + (⟨#[10]⟩ : ByteArray).size ≤ 140737488355328 then
let v10 : ByteArray := v9 ++ (⟨#[10]⟩ : ByteArray)
Option.bind (f59 v10 z5.2.2.2) fun y11 =>
bif y11.1 then
let v12 : (LI_ × (Int × Int)) := (y11.2.1, (y11.2.2.1, v7))
some (.inr (true, v12))
else
let v13 : Int := IntKind.wrap .i64 (z5.2.2.1 + (1 : Int))
self (z5.1, z5.2.1, v13, y11.2)
else none
else none
else none
else
some (.inl (z5.1, z5.2.1, z5.2.2.1, z5.2.2.2))
def r56 (f59 : ByteArray → (LI_ × (Int × Int)) → Option (Bool × (LI_ × (Int × Int)))) (f107 : Int → Option (ByteArray)) (lp0 : (LI_ × Int × Int × (LI_ × (Int × Int))) → Option ((LI_ × Int × Int × (LI_ × (Int × Int))) ⊕ (Bool × (LI_ × (Int × Int))))) (a0 : (LI_ × (Int × Int))) : Option (Bool × (LI_ × (Int × Int))) :=
let v1 : LI_ := ([(0 : Int), (1 : Int)] : List Int)
let v2 : Int := (v1.length : Int)
Option.bind (lp0 (v1, v2, (0 : Int), a0)) fun s3 => onSum s3 (fun y4 =>
some (false, y4.2.2.2)) (fun o14 => some o14)
def r57 (f59 : ByteArray → (LI_ × (Int × Int)) → Option (Bool × (LI_ × (Int × Int)))) (f108 : (LI_ × (Int × Int)) → Option (Int × Bool × (LI_ × (Int × Int)))) (a0 : (LI_ × (Int × Int))) : Option (Int × Int × Int × Bool × (LI_ × (Int × Int))) :=
Option.bind (f59 (⟨#[64]⟩ : ByteArray) a0) fun y1 =>
let v2 : Bool := !y1.1
bif v2 then
some ((0 : Int), (0 : Int), (0 : Int), false, y1.2)
else
Option.bind (f108 y1.2) fun y3 =>
bif y3.2.1 == true then
Option.bind (f59 (⟨#[32]⟩ : ByteArray) y3.2.2) fun y4 =>
Option.bind (f108 y4.2) fun y5 =>
bif y4.1 == true then
bif y5.2.1 == true then
Option.bind (f59 (⟨#[32]⟩ : ByteArray) y5.2.2) fun y6 =>
Option.bind (f108 y6.2) fun y7 =>
bif y6.1 == true then
bif y7.2.1 == true then
Option.bind (f59 (⟨#[10]⟩ : ByteArray) y7.2.2) fun y8 =>
some (y3.1, y5.1, y7.1, y8.1, y8.2)
else
some (y3.1, y5.1, y7.1, false, y7.2.2)
else
some (y3.1, y5.1, y7.1, false, y7.2.2)
else
Option.bind (f108 y5.2.2) fun y9 =>
some (y3.1, y5.1, y9.1, false, y9.2.2)
else
Option.bind (f108 y5.2.2) fun y10 =>
some (y3.1, y5.1, y10.1, false, y10.2.2)
else
Option.bind (f108 y3.2.2) fun y11 =>
Option.bind (f108 y11.2.2) fun y12 =>
some (y3.1, y11.1, y12.1, false, y12.2.2)
def F58_0 (f109 : (LI_ × (Int × Int)) → Option (LI_ × Bool × (LI_ × (Int × Int)))) (self : (Int × Int × (LI_ × (Int × Int)) × LL_) → Option ((Int × Int × (LI_ × (Int × Int)) × LL_) ⊕ (LL_ × Int × Bool × (LI_ × (Int × Int))))) (z3 : Int × Int × (LI_ × (Int × Int)) × LL_) : Option ((Int × Int × (LI_ × (Int × Int)) × LL_) ⊕ (LL_ × Int × Bool × (LI_ × (Int × Int)))) :=
let v4 : Bool := decide (z3.2.1 < z3.1)
bif v4 then
Option.bind (f109 z3.2.2.1) fun y5 =>
let v6 : Bool := !y5.2.1
bif v6 then
some (.inr (([] : List LI_), z3.2.2.1.2.1, false, y5.2.2))
else
let v7 : LL_ := ([y5.1] : List LI_)
if (z3.2.2.2.length + v7.length) * 24 ≤ 140737488355328 ∧ z3.2.2.2.length + v7.length ≤ 140737488355328 then
let v8 : LL_ := z3.2.2.2 ++ v7
let v9 : Int := IntKind.wrap .i64 (z3.2.1 + (1 : Int))
self (z3.1, v9, y5.2.2, v8)
else none
else
some (.inl (z3.1, z3.2.1, z3.2.2.1, z3.2.2.2))
def r58 (f109 : (LI_ × (Int × Int)) → Option (LI_ × Bool × (LI_ × (Int × Int)))) (lp0 : (Int × Int × (LI_ × (Int × Int)) × LL_) → Option ((Int × Int × (LI_ × (Int × Int)) × LL_) ⊕ (LL_ × Int × Bool × (LI_ × (Int × Int))))) (a0 : Int) (a1 : (LI_ × (Int × Int))) : Option (LL_ × Int × Bool × (LI_ × (Int × Int))) :=
Option.bind (lp0 (a0, (0 : Int), a1, ([] : List LI_))) fun s1 => onSum s1 (fun y2 =>
some (y2.2.2.2, (0 : Int), true, y2.2.2.1)) (fun o10 => some o10)
def r59 (f110 : LI_ → LI_ → Option (Bool)) (a0 : ByteArray) (a1 : (LI_ × (Int × Int))) : Option (Bool × (LI_ × (Int × Int))) :=
if 0 ≤ a1.2.1 ∧ a1.2.1 ≤ (a1.1.length : Int) ∧ (a1.1.length : Int) ≤ (a1.1.length : Int) then
let v1 : LI_ := cut a1.1 a1.2.1 (a1.1.length : Int)
if a0.size ≤ 140737488355328 then
let v2 : LI_ := strBytes a0
Option.bind (f110 v1 v2) fun y3 =>
let v4 : Bool := !y3
bif v4 then
some (false, a1)
else
let v5 : Int := (a0.size : Int)
let v6 : Int := IntKind.wrap .i64 (a1.2.1 + v5)
let v7 : (LI_ × (Int × Int)) := (a1.1, (v6, a1.2.2))
some (true, v7)
else none
else none
def F60_0 (f62 : HK_ → Option (Bool)) (f63 : LL_ → LL_ → Option (LL_)) (f111 : LL_ → LL_ → Int → Option (Bool)) (self : (LL_ × Int × HK_ × Int × Int × LL_) → Option ((LL_ × Int × HK_ × Int × Int × LL_) ⊕ (LL_ × Int))) (z6 : LL_ × Int × HK_ × Int × Int × LL_) : Option ((LL_ × Int × HK_ × Int × Int × LL_) ⊕ (LL_ × Int)) :=
let v7 : Bool := decide (z6.2.2.2.2.1 < z6.2.2.2.1)
bif v7 then
if 0 ≤ z6.2.2.2.2.1 ∧ z6.2.2.2.2.1 < (z6.2.2.1.length : Int) then
let v8 : (Int × (LL_ × LL_)) := z6.2.2.1.getD z6.2.2.2.2.1.toNat ((0 : Int), (([] : List LI_), ([] : List LI_)))
Option.bind (f111 z6.1 v8.2.1 v8.1) fun y9 =>
let v10 : Bool := !y9
bif v10 then
some (.inr (([] : List LI_), (5 : Int)))
else
if 0 ≤ z6.2.1 ∧ z6.2.1 ≤ v8.1 ∧ v8.1 ≤ (z6.1.length : Int) then
let v11 : LL_ := cut z6.1 z6.2.1 v8.1
Option.bind (f63 v11 z6.2.2.2.2.2) fun y12 =>
Option.bind (f63 v8.2.2 y12) fun y13 =>
let v14 : Int := (v8.2.1.length : Int)
let v15 : Int := IntKind.wrap .i64 (v8.1 + v14)
let v16 : Int := IntKind.wrap .i64 (z6.2.2.2.2.1 + (1 : Int))
self (z6.1, v15, z6.2.2.1, z6.2.2.2.1, v16, y13)
else none
else none
else
some (.inl (z6.1, z6.2.1, z6.2.2.1, z6.2.2.2.1, z6.2.2.2.2.1, z6.2.2.2.2.2))
def r60 (f62 : HK_ → Option (Bool)) (f63 : LL_ → LL_ → Option (LL_)) (f111 : LL_ → LL_ → Int → Option (Bool)) (lp0 : (LL_ × Int × HK_ × Int × Int × LL_) → Option ((LL_ × Int × HK_ × Int × Int × LL_) ⊕ (LL_ × Int))) (a0 : HK_) (a1 : LL_) : Option (LL_ × Int) :=
Option.bind (f62 a0) fun y1 =>
let v2 : Bool := !y1
bif v2 then
some (([] : List LI_), (1 : Int))
else
let v3 : Int := (a0.length : Int)
Option.bind (lp0 (a1, (0 : Int), a0, v3, (0 : Int), ([] : List LI_))) fun s4 => onSum s4 (fun y5 =>
if 0 ≤ y5.2.1 ∧ y5.2.1 ≤ (y5.1.length : Int) ∧ (y5.1.length : Int) ≤ (y5.1.length : Int) then
let v18 : LL_ := cut y5.1 y5.2.1 (y5.1.length : Int)
Option.bind (f63 v18 y5.2.2.2.2.2) fun y19 =>
some (y19, (0 : Int))
else none) (fun o17 => some o17)
def F61_0 (self : (LL_ × Int × Int × LI_) → Option ((LL_ × Int × Int × LI_) ⊕ (LI_))) (z4 : LL_ × Int × Int × LI_) : Option ((LL_ × Int × Int × LI_) ⊕ (LI_)) :=
let v5 : Bool := decide (z4.2.2.1 < z4.2.1)
bif v5 then
if 0 ≤ z4.2.2.1 ∧ z4.2.2.1 < (z4.1.length : Int) then
let v6 : LI_ := z4.1.getD z4.2.2.1.toNat ([] : List Int)
if (z4.2.2.2.length + v6.length) * 1 ≤ 140737488355328 ∧ z4.2.2.2.length + v6.length ≤ 140737488355328 then
let v7 : LI_ := z4.2.2.2 ++ v6
let v8 : Int := IntKind.wrap .i64 (z4.2.2.1 + (1 : Int))
self (z4.1, z4.2.1, v8, v7)
else none
else none
else
some (.inl (z4.1, z4.2.1, z4.2.2.1, z4.2.2.2))
def r61 (lp0 : (LL_ × Int × Int × LI_) → Option ((LL_ × Int × Int × LI_) ⊕ (LI_))) (a0 : LL_) : Option (LI_) :=
let v1 : Int := (a0.length : Int)
Option.bind (lp0 (a0, v1, (0 : Int), ([] : List Int))) fun s2 => onSum s2 (fun y3 =>
some y3.2.2.2) (fun o9 => some o9)
def F62_0 (f112 : LL_ → Option (Bool)) (self : (Int × HK_ × Int × Int) → Option ((Int × HK_ × Int × Int) ⊕ (Bool))) (z4 : Int × HK_ × Int × Int) : Option ((Int × HK_ × Int × Int) ⊕ (Bool)) :=
let v5 : Bool := decide (z4.2.2.2 < z4.2.2.1)
bif v5 then
if 0 ≤ z4.2.2.2 ∧ z4.2.2.2 < (z4.2.1.length : Int) then
let v6 : (Int × (LL_ × LL_)) := z4.2.1.getD z4.2.2.2.toNat ((0 : Int), (([] : List LI_), ([] : List LI_)))
let v7 : Bool := decide (v6.1 ≤ z4.1)
bif v7 == false then
let v8 : Bool := decide (v6.1 > (1048576 : Int))
bif v8 == false then
let v9 : Int := (v6.2.1.length : Int)
let v10 : Int := (v6.2.2.length : Int)
let v11 : Int := IntKind.wrap .i64 (v9 + v10)
let v12 : Bool := decide (v11 = (0 : Int))
bif v12 == false then
Option.bind (f112 v6.2.1) fun y13 =>
let v14 : Bool := !y13
bif v14 == false then
Option.bind (f112 v6.2.2) fun y15 =>
let v16 : Bool := !y15
bif v16 then
some (.inr false)
else
let v17 : Int := (v6.2.1.length : Int)
let v18 : Int := IntKind.wrap .i64 (v6.1 + v17)
let v19 : Int := IntKind.wrap .i64 (z4.2.2.2 + (1 : Int))
self (v18, z4.2.1, z4.2.2.1, v19)
else
some (.inr false)
else
some (.inr false)
else
some (.inr false)
else
some (.inr false)
else none
else
some (.inl (z4.1, z4.2.1, z4.2.2.1, z4.2.2.2))
def r62 (f112 : LL_ → Option (Bool)) (lp0 : (Int × HK_ × Int × Int) → Option ((Int × HK_ × Int × Int) ⊕ (Bool))) (a0 : HK_) : Option (Bool) :=
let v1 : Int := (a0.length : Int)
Option.bind (lp0 ((-1 : Int), a0, v1, (0 : Int))) fun s2 => onSum s2 (fun y3 =>
some true) (fun o20 => some o20)
def F63_0 (f102 : LI_ → Option (LI_)) (self : (LL_ × Int × Int × LL_) → Option ((LL_ × Int × Int × LL_) ⊕ (LL_))) (z4 : LL_ × Int × Int × LL_) : Option ((LL_ × Int × Int × LL_) ⊕ (LL_)) :=
let v5 : Bool := decide (z4.2.2.1 < z4.2.1)
bif v5 then
if 0 ≤ z4.2.2.1 ∧ z4.2.2.1 < (z4.1.length : Int) then
let v6 : LI_ := z4.1.getD z4.2.2.1.toNat ([] : List Int)
Option.bind (f102 v6) fun y7 =>
let v8 : LL_ := ([y7] : List LI_)
if (z4.2.2.2.length + v8.length) * 24 ≤ 140737488355328 ∧ z4.2.2.2.length + v8.length ≤ 140737488355328 then
let v9 : LL_ := z4.2.2.2 ++ v8
let v10 : Int := IntKind.wrap .i64 (z4.2.2.1 + (1 : Int))
self (z4.1, z4.2.1, v10, v9)
else none
else none
else
some (.inl (z4.1, z4.2.1, z4.2.2.1, z4.2.2.2))
def r63 (f102 : LI_ → Option (LI_)) (lp0 : (LL_ × Int × Int × LL_) → Option ((LL_ × Int × Int × LL_) ⊕ (LL_))) (a0 : LL_) (a1 : LL_) : Option (LL_) :=
let v1 : Int := (a0.length : Int)
Option.bind (lp0 (a0, v1, (0 : Int), a1)) fun s2 => onSum s2 (fun y3 =>
some y3.2.2.2) (fun o11 => some o11)
def r64 (a0 : Int) : Option (ByteArray) :=
let v1 : Bool := decide (a0 = (0 : Int))
bif v1 then
some (⟨#[98, 121, 116, 101, 115]⟩ : ByteArray)
else
let v2 : Bool := decide (a0 = (1 : Int))
bif v2 then
some (⟨#[108, 105, 110, 101, 115]⟩ : ByteArray)
else
some (⟨#[]⟩ : ByteArray)
def r65 (a0 : LI_) (a1 : Int) (a2 : Int) : Option (Bool) :=
let v1 : Bool := decide (a1 ≥ (0 : Int))
bif v1 == true then
let v2 : Int := (a0.length : Int)
let v3 : Bool := decide (a1 < v2)
bif v3 == true then
if 0 ≤ a1 ∧ a1 < (a0.length : Int) then
let v4 : Int := a0.getD a1.toNat (0 : Int)
let v5 : Bool := decide (v4 = a2)
some v5
else none
else
some false
else
some false
def r66 (f65 : LI_ → Int → Int → Option (Bool)) (f113 : LI_ → Int → Int → Option (Int × Int)) (a0 : LI_) (a1 : Int) : Option (Int × Int × Int × Int) :=
let v1 : Int := IntKind.wrap .i64 (a1 + (1 : Int))
Option.bind (f113 a0 v1 (1048576 : Int)) fun y2 =>
Option.bind (f65 a0 y2.2 (32 : Int)) fun y3 =>
let v4 : Bool := !y3
bif v4 then
some ((0 : Int), (0 : Int), (0 : Int), (-1 : Int))
else
let v5 : Int := IntKind.wrap .i64 (y2.2 + (1 : Int))
Option.bind (f113 a0 v5 (1048576 : Int)) fun y6 =>
Option.bind (f65 a0 y6.2 (32 : Int)) fun y7 =>
let v8 : Bool := !y7
bif v8 then
some ((0 : Int), (0 : Int), (0 : Int), (-1 : Int))
else
let v9 : Int := IntKind.wrap .i64 (y6.2 + (1 : Int))
Option.bind (f113 a0 v9 (1048576 : Int)) fun y10 =>
Option.bind (f65 a0 y10.2 (10 : Int)) fun y11 =>
let v12 : Bool := !y11
bif v12 then
some ((0 : Int), (0 : Int), (0 : Int), (-1 : Int))
else
let v13 : Int := IntKind.wrap .i64 (y10.2 + (1 : Int))
some (y2.1, y6.1, y10.1, v13)
def r67 (f65 : LI_ → Int → Int → Option (Bool)) (f113 : LI_ → Int → Int → Option (Int × Int)) (f114 : Int → LI_ → Option (Bool)) (a0 : Int) (a1 : LI_) (a2 : Int) : Option (LI_ × Int) :=
Option.bind (f113 a1 a2 (1048576 : Int)) fun y1 =>
Option.bind (f65 a1 y1.2 (58 : Int)) fun y2 =>
let v3 : Bool := !y2
bif v3 == false then
let v4 : Int := (a1.length : Int)
let v5 : Int := IntKind.wrap .i64 (v4 - y1.2)
let v6 : Int := IntKind.wrap .i64 (v5 - (1 : Int))
let v7 : Bool := decide (v6 < y1.1)
bif v7 then
some (([] : List Int), (-1 : Int))
else
let v8 : Int := IntKind.wrap .i64 (y1.2 + (1 : Int))
let v9 : Int := IntKind.wrap .i64 (v8 + y1.1)
Option.bind (f65 a1 v9 (10 : Int)) fun y10 =>
let v11 : Bool := !y10
bif v11 == false then
let v12 : Int := IntKind.wrap .i64 (y1.2 + (1 : Int))
if 0 ≤ v12 ∧ v12 ≤ v9 ∧ v9 ≤ (a1.length : Int) then
let v13 : LI_ := cut a1 v12 v9
Option.bind (f114 a0 v13) fun y14 =>
let v15 : Bool := !y14
bif v15 then
some (([] : List Int), (-1 : Int))
else
let v16 : Int := IntKind.wrap .i64 (y1.2 + (1 : Int))
if 0 ≤ v16 ∧ v16 ≤ v9 ∧ v9 ≤ (a1.length : Int) then
let v17 : LI_ := cut a1 v16 v9
let v18 : Int := IntKind.wrap .i64 (v9 + (1 : Int))
some (v17, v18)
else none
else none
else
some (([] : List Int), (-1 : Int))
else
some (([] : List Int), (-1 : Int))
def F68_0 (lp1 : (HK_ × Int × Int × (Int × (LL_ × LL_))) → Option ((HK_ × Int × Int × (Int × (LL_ × LL_))) ⊕ (Bool))) (lp2 : (HK_ × Int × Int × (Int × (LL_ × LL_))) → Option ((HK_ × Int × Int × (Int × (LL_ × LL_))) ⊕ (Bool))) (self : (HK_ × Int) → Option ((HK_ × Int) ⊕ (Bool))) (z3 : HK_ × Int) : Option ((HK_ × Int) ⊕ (Bool)) :=
let v4 : Int := (z3.1.length : Int)
let v5 : Bool := decide (z3.2 < v4)
bif v5 then
if 0 ≤ z3.2 ∧ z3.2 < (z3.1.length : Int) then
let v6 : (Int × (LL_ × LL_)) := z3.1.getD z3.2.toNat ((0 : Int), (([] : List LI_), ([] : List LI_)))
let v7 : Bool := decide (v6.1 < (0 : Int))
bif v7 == false then
let v8 : Bool := decide (v6.1 > (1048576 : Int))
bif v8 == false then
let v9 : Int := (v6.2.1.length : Int)
let v10 : Int := (v6.2.2.length : Int)
let v11 : Int := IntKind.wrap .i64 (v9 + v10)
let v12 : Bool := decide (v11 = (0 : Int))
bif v12 then
some (.inr false)
else
let v13 : Bool := decide (z3.2 > (0 : Int))
bif v13 == true then
let v14 : Int := IntKind.wrap .i64 (z3.2 - (1 : Int))
if 0 ≤ v14 ∧ v14 < (z3.1.length : Int) then
let v15 : (Int × (LL_ × LL_)) := z3.1.getD v14.toNat ((0 : Int), (([] : List LI_), ([] : List LI_)))
let v16 : Int := IntKind.wrap .i64 (v6.1 - v15.1)
let v17 : Int := IntKind.wrap .i64 (z3.2 - (1 : Int))
if 0 ≤ v17 ∧ v17 < (z3.1.length : Int) then
let v18 : (Int × (LL_ × LL_)) := z3.1.getD v17.toNat ((0 : Int), (([] : List LI_), ([] : List LI_)))
let v19 : Int := (v18.2.1.length : Int)
let v20 : Bool := decide (v16 ≤ v19)
bif v20 then
some (.inr false)
else
Option.bind (lp1 (z3.1, z3.2, (0 : Int), v6)) fun s21 => onSum s21 (fun y22 =>
Option.bind (lp2 (y22.1, y22.2.1, (0 : Int), y22.2.2.2)) fun s31 => onSum s31 (fun y32 =>
let v41 : Int := IntKind.wrap .i64 (y32.2.1 + (1 : Int))
self (y32.1, v41)) (fun o40 => some (.inr o40))) (fun o30 => some (.inr o30))
else none
else none
else
Option.bind (lp1 (z3.1, z3.2, (0 : Int), v6)) fun s42 => onSum s42 (fun y43 =>
Option.bind (lp2 (y43.1, y43.2.1, (0 : Int), y43.2.2.2)) fun s45 => onSum s45 (fun y46 =>
let v48 : Int := IntKind.wrap .i64 (y46.2.1 + (1 : Int))
self (y46.1, v48)) (fun o47 => some (.inr o47))) (fun o44 => some (.inr o44))
else
some (.inr false)
else
some (.inr false)
else none
else
some (.inl (z3.1, z3.2))
def F68_1 (self : (HK_ × Int × Int × (Int × (LL_ × LL_))) → Option ((HK_ × Int × Int × (Int × (LL_ × LL_))) ⊕ (Bool))) (z23 : HK_ × Int × Int × (Int × (LL_ × LL_))) : Option ((HK_ × Int × Int × (Int × (LL_ × LL_))) ⊕ (Bool)) :=
let v24 : Int := (z23.2.2.2.2.1.length : Int)
let v25 : Bool := decide (z23.2.2.1 < v24)
bif v25 then
if 0 ≤ z23.2.2.1 ∧ z23.2.2.1 < (z23.2.2.2.2.1.length : Int) then
let v26 : LI_ := z23.2.2.2.2.1.getD z23.2.2.1.toNat ([] : List Int)
let v27 : Int := (v26.length : Int)
let v28 : Bool := decide (v27 = (0 : Int))
bif v28 then
some (.inr false)
else
let v29 : Int := IntKind.wrap .i64 (z23.2.2.1 + (1 : Int))
self (z23.1, z23.2.1, v29, z23.2.2.2)
else none
else
some (.inl (z23.1, z23.2.1, z23.2.2.1, z23.2.2.2))
def F68_2 (self : (HK_ × Int × Int × (Int × (LL_ × LL_))) → Option ((HK_ × Int × Int × (Int × (LL_ × LL_))) ⊕ (Bool))) (z33 : HK_ × Int × Int × (Int × (LL_ × LL_))) : Option ((HK_ × Int × Int × (Int × (LL_ × LL_))) ⊕ (Bool)) :=
let v34 : Int := (z33.2.2.2.2.2.length : Int)
let v35 : Bool := decide (z33.2.2.1 < v34)
bif v35 then
if 0 ≤ z33.2.2.1 ∧ z33.2.2.1 < (z33.2.2.2.2.2.length : Int) then
let v36 : LI_ := z33.2.2.2.2.2.getD z33.2.2.1.toNat ([] : List Int)
let v37 : Int := (v36.length : Int)
let v38 : Bool := decide (v37 = (0 : Int))
bif v38 then
some (.inr false)
else
let v39 : Int := IntKind.wrap .i64 (z33.2.2.1 + (1 : Int))
self (z33.1, z33.2.1, v39, z33.2.2.2)
else none
else
some (.inl (z33.1, z33.2.1, z33.2.2.1, z33.2.2.2))
def r68 (lp0 : (HK_ × Int) → Option ((HK_ × Int) ⊕ (Bool))) (lp1 : (HK_ × Int × Int × (Int × (LL_ × LL_))) → Option ((HK_ × Int × Int × (Int × (LL_ × LL_))) ⊕ (Bool))) (lp2 : (HK_ × Int × Int × (Int × (LL_ × LL_))) → Option ((HK_ × Int × Int × (Int × (LL_ × LL_))) ⊕ (Bool))) (a0 : HK_) : Option (Bool) :=
Option.bind (lp0 (a0, (0 : Int))) fun s1 => onSum s1 (fun y2 =>
some true) (fun o49 => some o49)
def F69_0 (self : (Int × LI_ × Int × Int × LL_) → Option ((Int × LI_ × Int × Int × LL_) ⊕ (LL_ × Int))) (z5 : Int × LI_ × Int × Int × LL_) : Option ((Int × LI_ × Int × Int × LL_) ⊕ (LL_ × Int)) :=
let v6 : Int := (z5.2.1.length : Int)
let v7 : Bool := decide (z5.2.2.2.1 < v6)
bif v7 then
let v8 : Bool := decide (z5.1 = (0 : Int))
bif v8 == false then
if 0 ≤ z5.2.2.2.1 ∧ z5.2.2.2.1 < (z5.2.1.length : Int) then
let v9 : Int := z5.2.1.getD z5.2.2.2.1.toNat (0 : Int)
let v10 : Bool := decide (v9 = (10 : Int))
bif v10 then
let v11 : Int := IntKind.wrap .i64 (z5.2.2.2.1 + (1 : Int))
if 0 ≤ z5.2.2.1 ∧ z5.2.2.1 ≤ v11 ∧ v11 ≤ (z5.2.1.length : Int) then
let v12 : LI_ := cut z5.2.1 z5.2.2.1 v11
let v13 : LL_ := ([v12] : List LI_)
if (z5.2.2.2.2.length + v13.length) * 24 ≤ 140737488355328 ∧ z5.2.2.2.2.length + v13.length ≤ 140737488355328 then
let v14 : LL_ := z5.2.2.2.2 ++ v13
let v15 : Int := IntKind.wrap .i64 (z5.2.2.2.1 + (1 : Int))
let v16 : Int := IntKind.wrap .i64 (z5.2.2.2.1 + (1 : Int))
self (z5.1, z5.2.1, v15, v16, v14)
else none
else none
else
let v17 : Int := IntKind.wrap .i64 (z5.2.2.2.1 + (1 : Int))
self (z5.1, z5.2.1, z5.2.2.1, v17, z5.2.2.2.2)
else none
else
let v18 : Int := IntKind.wrap .i64 (z5.2.2.2.1 + (1 : Int))
if 0 ≤ z5.2.2.1 ∧ z5.2.2.1 ≤ v18 ∧ v18 ≤ (z5.2.1.length : Int) then
let v19 : LI_ := cut z5.2.1 z5.2.2.1 v18
let v20 : LL_ := ([v19] : List LI_)
if (z5.2.2.2.2.length + v20.length) * 24 ≤ 140737488355328 ∧ z5.2.2.2.2.length + v20.length ≤ 140737488355328 then
let v21 : LL_ := z5.2.2.2.2 ++ v20
let v22 : Int := IntKind.wrap .i64 (z5.2.2.2.1 + (1 : Int))
let v23 : Int := IntKind.wrap .i64 (z5.2.2.2.1 + (1 : Int))
self (z5.1, z5.2.1, v22, v23, v21)
else none
else none
else
some (.inl (z5.1, z5.2.1, z5.2.2.1, z5.2.2.2.1, z5.2.2.2.2))
def r69 (lp0 : (Int × LI_ × Int × Int × LL_) → Option ((Int × LI_ × Int × Int × LL_) ⊕ (LL_ × Int))) (a0 : Int) (a1 : LI_) : Option (LL_ × Int) :=
let v1 : Bool := !decide (a0 = (0 : Int))
bif v1 == true then
let v2 : Bool := !decide (a0 = (1 : Int))
bif v2 then
some (([] : List LI_), (1 : Int))
else
Option.bind (lp0 (a0, a1, (0 : Int), (0 : Int), ([] : List LI_))) fun s3 => onSum s3 (fun y4 =>
let v25 : Int := (y4.2.1.length : Int)
let v26 : Bool := decide (y4.2.2.1 < v25)
bif v26 then
if 0 ≤ y4.2.2.1 ∧ y4.2.2.1 ≤ (y4.2.1.length : Int) ∧ (y4.2.1.length : Int) ≤ (y4.2.1.length : Int) then
let v27 : LI_ := cut y4.2.1 y4.2.2.1 (y4.2.1.length : Int)
let v28 : LL_ := ([v27] : List LI_)
if (y4.2.2.2.2.length + v28.length) * 24 ≤ 140737488355328 ∧ y4.2.2.2.2.length + v28.length ≤ 140737488355328 then
let v29 : LL_ := y4.2.2.2.2 ++ v28
some (v29, (0 : Int))
else none
else none
else
some (y4.2.2.2.2, (0 : Int))) (fun o24 => some o24)
else
Option.bind (lp0 (a0, a1, (0 : Int), (0 : Int), ([] : List LI_))) fun s30 => onSum s30 (fun y31 =>
let v33 : Int := (y31.2.1.length : Int)
let v34 : Bool := decide (y31.2.2.1 < v33)
bif v34 then
if 0 ≤ y31.2.2.1 ∧ y31.2.2.1 ≤ (y31.2.1.length : Int) ∧ (y31.2.1.length : Int) ≤ (y31.2.1.length : Int) then
let v35 : LI_ := cut y31.2.1 y31.2.2.1 (y31.2.1.length : Int)
let v36 : LL_ := ([v35] : List LI_)
if (y31.2.2.2.2.length + v36.length) * 24 ≤ 140737488355328 ∧ y31.2.2.2.2.length + v36.length ≤ 140737488355328 then
let v37 : LL_ := y31.2.2.2.2 ++ v36
some (v37, (0 : Int))
else none
else none
else
some (y31.2.2.2.2, (0 : Int))) (fun o32 => some o32)
def r103 (a0 : Int) : Option (Bool) :=
let v1 : Bool := decide (a0 = (0 : Int))
bif v1 == false then
let v2 : Bool := decide (a0 = (1 : Int))
some v2
else
some true
def r104 (f148 : LI_ → Int → Option (Int)) (a0 : LI_) (a1 : Int) : Option (Int) :=
Option.bind (f148 a0 a1) fun y1 =>
some y1
def r107 (a0 : Int) : Option (ByteArray) :=
let v1 : Bool := decide (a0 = (0 : Int))
bif v1 then
some (⟨#[98, 121, 116, 101, 115]⟩ : ByteArray)
else
let v2 : Bool := decide (a0 = (1 : Int))
bif v2 then
some (⟨#[108, 105, 110, 101, 115]⟩ : ByteArray)
else
some (⟨#[]⟩ : ByteArray)
def F108_0 (self : (Int × Int × (LI_ × (Int × Int))) → Option ((Int × Int × (LI_ × (Int × Int))) ⊕ (Int × Bool × (LI_ × (Int × Int))))) (z3 : Int × Int × (LI_ × (Int × Int))) : Option ((Int × Int × (LI_ × (Int × Int))) ⊕ (Int × Bool × (LI_ × (Int × Int)))) :=
let v4 : Int := (z3.2.2.1.length : Int)
let v5 : Bool := decide (z3.2.2.2.1 < v4)
bif v5 == true then
if 0 ≤ z3.2.2.2.1 ∧ z3.2.2.2.1 < (z3.2.2.1.length : Int) then
let v6 : Int := z3.2.2.1.getD z3.2.2.2.1.toNat (0 : Int)
let v7 : Bool := decide (v6 ≥ (48 : Int))
bif v7 == true then
if 0 ≤ z3.2.2.2.1 ∧ z3.2.2.2.1 < (z3.2.2.1.length : Int) then
let v8 : Int := z3.2.2.1.getD z3.2.2.2.1.toNat (0 : Int)
let v9 : Bool := decide (v8 ≤ (57 : Int))
bif v9 then
let v10 : Int := IntKind.wrap .i64 ((10 : Int) * z3.1)
if 0 ≤ z3.2.2.2.1 ∧ z3.2.2.2.1 < (z3.2.2.1.length : Int) then
let v11 : Int := z3.2.2.1.getD z3.2.2.2.1.toNat (0 : Int)
let v12 : Int := IntKind.wrap .u8 (v11 - (48 : Int))
let v13 : Int := IntKind.wrap .i64 v12
let v14 : Int := IntKind.wrap .i64 (v10 + v13)
let v15 : Int := IntKind.wrap .i64 (z3.2.2.2.1 + (1 : Int))
let v16 : (LI_ × (Int × Int)) := (z3.2.2.1, (v15, z3.2.2.2.2))
let v17 : Bool := decide (v14 > (1048576 : Int))
bif v17 == false then
let v18 : Int := IntKind.wrap .i64 (v16.2.1 - z3.2.1)
let v19 : Bool := decide (v18 > (1 : Int))
bif v19 == true then
if 0 ≤ z3.2.1 ∧ z3.2.1 < (v16.1.length : Int) then
let v20 : Int := v16.1.getD z3.2.1.toNat (0 : Int)
let v21 : Bool := decide (v20 = (48 : Int))
bif v21 then
some (.inr ((0 : Int), false, v16))
else
self (v14, z3.2.1, v16)
else none
else
self (v14, z3.2.1, v16)
else
some (.inr ((0 : Int), false, v16))
else none
else
some (.inl (z3.1, z3.2.1, z3.2.2))
else none
else
some (.inl (z3.1, z3.2.1, z3.2.2))
else none
else
some (.inl (z3.1, z3.2.1, z3.2.2))
def r108 (lp0 : (Int × Int × (LI_ × (Int × Int))) → Option ((Int × Int × (LI_ × (Int × Int))) ⊕ (Int × Bool × (LI_ × (Int × Int))))) (a0 : (LI_ × (Int × Int))) : Option (Int × Bool × (LI_ × (Int × Int))) :=
Option.bind (lp0 ((0 : Int), a0.2.1, a0)) fun s1 => onSum s1 (fun y2 =>
let v23 : Bool := decide (y2.2.2.2.1 > y2.2.1)
some (y2.1, v23, y2.2.2)) (fun o22 => some o22)
def r109 (f59 : ByteArray → (LI_ × (Int × Int)) → Option (Bool × (LI_ × (Int × Int)))) (f102 : LI_ → Option (LI_)) (f108 : (LI_ × (Int × Int)) → Option (Int × Bool × (LI_ × (Int × Int)))) (f149 : Int → LI_ → Option (Bool)) (a0 : (LI_ × (Int × Int))) : Option (LI_ × Bool × (LI_ × (Int × Int))) :=
Option.bind (f108 a0) fun y1 =>
let v2 : Bool := !y1.2.1
bif v2 == false then
Option.bind (f59 (⟨#[58]⟩ : ByteArray) y1.2.2) fun y3 =>
let v4 : Bool := !y3.1
bif v4 == false then
let v5 : Int := (y3.2.1.length : Int)
let v6 : Int := IntKind.wrap .i64 (v5 - y3.2.2.1)
let v7 : Bool := decide (y1.1 > v6)
bif v7 then
some (([] : List Int), false, y3.2)
else
let v8 : Int := IntKind.wrap .i64 (y3.2.2.1 + y1.1)
if 0 ≤ y3.2.2.1 ∧ y3.2.2.1 ≤ v8 ∧ v8 ≤ (y3.2.1.length : Int) then
let v9 : LI_ := cut y3.2.1 y3.2.2.1 v8
Option.bind (f102 v9) fun y10 =>
let v11 : Int := IntKind.wrap .i64 (y3.2.2.1 + y1.1)
let v12 : (LI_ × (Int × Int)) := (y3.2.1, (v11, y3.2.2.2))
Option.bind (f59 (⟨#[10]⟩ : ByteArray) v12) fun y13 =>
bif y13.1 == true then
Option.bind (f149 y13.2.2.2 y10) fun y14 =>
some (y10, y14, y13.2)
else
some (y10, false, y13.2)
else none
else
some (([] : List Int), false, y3.2)
else
some (([] : List Int), false, y1.2.2)
def r110 (f145 : LI_ → LI_ → Option (Bool)) (a0 : LI_) (a1 : LI_) : Option (Bool) :=
let v1 : Int := (a0.length : Int)
let v2 : Int := (a1.length : Int)
let v3 : Bool := decide (v1 ≥ v2)
bif v3 == true then
let v4 : Int := (a1.length : Int)
if 0 ≤ (0 : Int) ∧ (0 : Int) ≤ v4 ∧ v4 ≤ (a0.length : Int) then
let v5 : LI_ := cut a0 (0 : Int) v4
Option.bind (f145 v5 a1) fun y6 =>
some y6
else none
else
some false
def r111 (f150 : LL_ → LL_ → Option (Bool)) (a0 : LL_) (a1 : LL_) (a2 : Int) : Option (Bool) :=
let v1 : Int := (a0.length : Int)
let v2 : Bool := decide (a2 ≤ v1)
bif v2 == true then
let v3 : Int := (a1.length : Int)
let v4 : Int := (a0.length : Int)
let v5 : Int := IntKind.wrap .i64 (v4 - a2)
let v6 : Bool := decide (v3 ≤ v5)
bif v6 == true then
let v7 : Int := (a1.length : Int)
let v8 : Int := IntKind.wrap .i64 (a2 + v7)
if 0 ≤ a2 ∧ a2 ≤ v8 ∧ v8 ≤ (a0.length : Int) then
let v9 : LL_ := cut a0 a2 v8
Option.bind (f150 v9 a1) fun y10 =>
some y10
else none
else
some false
else
some false
def F112_0 (self : (LL_ × Int × Int) → Option ((LL_ × Int × Int) ⊕ (Bool))) (z4 : LL_ × Int × Int) : Option ((LL_ × Int × Int) ⊕ (Bool)) :=
let v5 : Bool := decide (z4.2.2 < z4.2.1)
bif v5 then
if 0 ≤ z4.2.2 ∧ z4.2.2 < (z4.1.length : Int) then
let v6 : LI_ := z4.1.getD z4.2.2.toNat ([] : List Int)
let v7 : Int := (v6.length : Int)
let v8 : Bool := decide (v7 = (0 : Int))
bif v8 then
some (.inr false)
else
let v9 : Int := IntKind.wrap .i64 (z4.2.2 + (1 : Int))
self (z4.1, z4.2.1, v9)
else none
else
some (.inl (z4.1, z4.2.1, z4.2.2))
def r112 (lp0 : (LL_ × Int × Int) → Option ((LL_ × Int × Int) ⊕ (Bool))) (a0 : LL_) : Option (Bool) :=
let v1 : Int := (a0.length : Int)
Option.bind (lp0 (a0, v1, (0 : Int))) fun s2 => onSum s2 (fun y3 =>
some true) (fun o10 => some o10)
def F113_0 (self : (LI_ × Int × Int × Int × Int) → Option ((LI_ × Int × Int × Int × Int) ⊕ (Int × Int))) (z3 : LI_ × Int × Int × Int × Int) : Option ((LI_ × Int × Int × Int × Int) ⊕ (Int × Int)) :=
let v4 : Int := (z3.1.length : Int)
let v5 : Bool := decide (z3.2.2.2.2 < v4)
bif v5 == true then
if 0 ≤ z3.2.2.2.2 ∧ z3.2.2.2.2 < (z3.1.length : Int) then
let v6 : Int := z3.1.getD z3.2.2.2.2.toNat (0 : Int)
let v7 : Bool := decide (v6 ≥ (48 : Int))
bif v7 == true then
if 0 ≤ z3.2.2.2.2 ∧ z3.2.2.2.2 < (z3.1.length : Int) then
let v8 : Int := z3.1.getD z3.2.2.2.2.toNat (0 : Int)
let v9 : Bool := decide (v8 ≤ (57 : Int))
bif v9 then
let v10 : Bool := decide (z3.2.2.2.2 > z3.2.1)
bif v10 == true then
let v11 : Bool := decide (z3.2.2.2.1 = (0 : Int))
bif v11 == false then
let v12 : Bool := decide (z3.2.2.2.1 > z3.2.2.1)
bif v12 then
some (.inr ((0 : Int), (-1 : Int)))
else
let v13 : Int := IntKind.wrap .i64 (z3.2.2.2.1 * (10 : Int))
if 0 ≤ z3.2.2.2.2 ∧ z3.2.2.2.2 < (z3.1.length : Int) then
let v14 : Int := z3.1.getD z3.2.2.2.2.toNat (0 : Int)
let v15 : Int := IntKind.wrap .u8 (v14 - (48 : Int))
let v16 : Int := IntKind.wrap .i64 v15
let v17 : Int := IntKind.wrap .i64 (v13 + v16)
let v18 : Int := IntKind.wrap .i64 (z3.2.2.2.2 + (1 : Int))
self (z3.1, z3.2.1, z3.2.2.1, v17, v18)
else none
else
some (.inr ((0 : Int), (-1 : Int)))
else
let v19 : Bool := decide (z3.2.2.2.1 > z3.2.2.1)
bif v19 then
some (.inr ((0 : Int), (-1 : Int)))
else
let v20 : Int := IntKind.wrap .i64 (z3.2.2.2.1 * (10 : Int))
if 0 ≤ z3.2.2.2.2 ∧ z3.2.2.2.2 < (z3.1.length : Int) then
let v21 : Int := z3.1.getD z3.2.2.2.2.toNat (0 : Int)
let v22 : Int := IntKind.wrap .u8 (v21 - (48 : Int))
let v23 : Int := IntKind.wrap .i64 v22
let v24 : Int := IntKind.wrap .i64 (v20 + v23)
let v25 : Int := IntKind.wrap .i64 (z3.2.2.2.2 + (1 : Int))
self (z3.1, z3.2.1, z3.2.2.1, v24, v25)
else none
else
some (.inl (z3.1, z3.2.1, z3.2.2.1, z3.2.2.2.1, z3.2.2.2.2))
else none
else
some (.inl (z3.1, z3.2.1, z3.2.2.1, z3.2.2.2.1, z3.2.2.2.2))
else none
else
some (.inl (z3.1, z3.2.1, z3.2.2.1, z3.2.2.2.1, z3.2.2.2.2))
def r113 (lp0 : (LI_ × Int × Int × Int × Int) → Option ((LI_ × Int × Int × Int × Int) ⊕ (Int × Int))) (a0 : LI_) (a1 : Int) (a2 : Int) : Option (Int × Int) :=
Option.bind (lp0 (a0, a1, a2, (0 : Int), a1)) fun s1 => onSum s1 (fun y2 =>
let v27 : Bool := decide (y2.2.2.2.2 = y2.2.1)
bif v27 == false then
let v28 : Bool := decide (y2.2.2.2.1 > y2.2.2.1)
bif v28 then
some ((0 : Int), (-1 : Int))
else
some (y2.2.2.2.1, y2.2.2.2.2)
else
some ((0 : Int), (-1 : Int))) (fun o26 => some o26)
def F114_0 (self : (LI_ × Int) → Option ((LI_ × Int) ⊕ (Bool))) (z9 : LI_ × Int) : Option ((LI_ × Int) ⊕ (Bool)) :=
let v10 : Int := IntKind.wrap .i64 (z9.2 + (1 : Int))
let v11 : Int := (z9.1.length : Int)
let v12 : Bool := decide (v10 < v11)
bif v12 then
if 0 ≤ z9.2 ∧ z9.2 < (z9.1.length : Int) then
let v13 : Int := z9.1.getD z9.2.toNat (0 : Int)
let v14 : Bool := decide (v13 = (10 : Int))
bif v14 then
some (.inr false)
else
let v15 : Int := IntKind.wrap .i64 (z9.2 + (1 : Int))
self (z9.1, v15)
else none
else
some (.inl (z9.1, z9.2))
def r114 (lp0 : (LI_ × Int) → Option ((LI_ × Int) ⊕ (Bool))) (a0 : Int) (a1 : LI_) : Option (Bool) :=
let v1 : Bool := decide (a0 = (0 : Int))
bif v1 then
let v2 : Int := (a1.length : Int)
let v3 : Bool := decide (v2 = (1 : Int))
some v3
else
let v4 : Bool := !decide (a0 = (1 : Int))
bif v4 == false then
let v5 : Int := (a1.length : Int)
let v6 : Bool := decide (v5 = (0 : Int))
bif v6 then
some false
else
Option.bind (lp0 (a1, (0 : Int))) fun s7 => onSum s7 (fun y8 =>
some true) (fun o16 => some o16)
else
some false
def r145 (a0 : LI_) (a1 : LI_) : Option (Bool) :=
let v1 : ByteArray := bytesStr a0
let v2 : ByteArray := bytesStr a1
let v3 : Bool := strEq v1 v2
some v3
def r149 (f104 : LI_ → Int → Option (Int)) (a0 : Int) (a1 : LI_) : Option (Bool) :=
let v1 : Bool := decide (a0 = (0 : Int))
bif v1 then
let v2 : Int := (a1.length : Int)
let v3 : Bool := decide (v2 = (1 : Int))
some v3
else
let v4 : Bool := decide (a0 = (1 : Int))
bif v4 then
let v5 : Int := (a1.length : Int)
let v6 : Bool := decide (v5 > (0 : Int))
bif v6 == true then
let v7 : Int := (a1.length : Int)
let v8 : Int := IntKind.wrap .i64 (v7 - (1 : Int))
if 0 ≤ (0 : Int) ∧ (0 : Int) ≤ v8 ∧ v8 ≤ (a1.length : Int) then
let v9 : LI_ := cut a1 (0 : Int) v8
Option.bind (f104 v9 (10 : Int)) fun y10 =>
let v11 : Bool := decide (y10 < (0 : Int))
some v11
else none
else
some false
else
some false
def F150_0 (f145 : LI_ → LI_ → Option (Bool)) (self : (LL_ × LL_ × Int × Int) → Option ((LL_ × LL_ × Int × Int) ⊕ (Bool))) (z7 : LL_ × LL_ × Int × Int) : Option ((LL_ × LL_ × Int × Int) ⊕ (Bool)) :=
let v8 : Bool := decide (z7.2.2.2 < z7.2.2.1)
bif v8 then
if 0 ≤ z7.2.2.2 ∧ z7.2.2.2 < (z7.2.1.length : Int) then
let v9 : LI_ := z7.2.1.getD z7.2.2.2.toNat ([] : List Int)
if 0 ≤ z7.2.2.2 ∧ z7.2.2.2 < (z7.1.length : Int) then
let v10 : LI_ := z7.1.getD z7.2.2.2.toNat ([] : List Int)
Option.bind (f145 v9 v10) fun y11 =>
let v12 : Bool := !y11
bif v12 then
some (.inr false)
else
let v13 : Int := IntKind.wrap .i64 (z7.2.2.2 + (1 : Int))
self (z7.1, z7.2.1, z7.2.2.1, v13)
else none
else none
else
some (.inl (z7.1, z7.2.1, z7.2.2.1, z7.2.2.2))
def r150 (f145 : LI_ → LI_ → Option (Bool)) (lp0 : (LL_ × LL_ × Int × Int) → Option ((LL_ × LL_ × Int × Int) ⊕ (Bool))) (a0 : LL_) (a1 : LL_) : Option (Bool) :=
let v1 : Int := (a0.length : Int)
let v2 : Int := (a1.length : Int)
let v3 : Bool := !decide (v1 = v2)
bif v3 then
some false
else
let v4 : Int := (a0.length : Int)
Option.bind (lp0 (a1, a0, v4, (0 : Int))) fun s5 => onSum s5 (fun y6 =>
some true) (fun o14 => some o14)
def g4 (call : CallFn E) : LI_ → LI_ → Option (Bool) := fun x0 x1 => call 4 (x0, x1)
def g8 (call : CallFn E) : LI_ → LI_ → Option (LI_ × Int × Int) := fun x0 x1 => call 8 (x0, x1)
def g9 (call : CallFn E) : LI_ → LI_ → Option (LI_ × Int × Int) := fun x0 x1 => call 9 (x0, x1)
def g10 (call : CallFn E) : Unit → Option (Bool) := fun _ => call 10 ()
def g11 (call : CallFn E) : LI_ → LI_ → Option (LI_ × Int × Int) := fun x0 x1 => call 11 (x0, x1)
def g12 (call : CallFn E) : LI_ → LI_ → Option (LI_ × Int × Int) := fun x0 x1 => call 12 (x0, x1)
def g20 (call : CallFn E) : LI_ → Option (Int × HK_ × Int × Int) := fun x0 => call 20 x0
def g21 (call : CallFn E) : Int → HK_ → LI_ → Option (LI_ × Int) := fun x0 x1 x2 => call 21 (x0, x1, x2)
def g22 (call : CallFn E) : HK_ → Option (HK_ × Int) := fun x0 => call 22 x0
def g24 (call : CallFn E) : LI_ → Option (Int × HK_ × Int × Int) := fun x0 => call 24 x0
def g25 (call : CallFn E) : HK_ → LL_ → Option (LL_ × Int) := fun x0 x1 => call 25 (x0, x1)
def g26 (call : CallFn E) : Int → LI_ → Option (LL_) := fun x0 x1 => call 26 (x0, x1)
def g27 (call : CallFn E) : LL_ → Option (LI_) := fun x0 => call 27 x0
def g28 (call : CallFn E) : HK_ → Option (HK_ × Int) := fun x0 => call 28 x0
def g49 (call : CallFn E) : Int → LI_ → Option (LL_ × Int) := fun x0 x1 => call 49 (x0, x1)
def g56 (call : CallFn E) : (LI_ × (Int × Int)) → Option (Bool × (LI_ × (Int × Int))) := fun x0 => call 56 x0
def g57 (call : CallFn E) : (LI_ × (Int × Int)) → Option (Int × Int × Int × Bool × (LI_ × (Int × Int))) := fun x0 => call 57 x0
def g58 (call : CallFn E) : Int → (LI_ × (Int × Int)) → Option (LL_ × Int × Bool × (LI_ × (Int × Int))) := fun x0 x1 => call 58 (x0, x1)
def g59 (call : CallFn E) : ByteArray → (LI_ × (Int × Int)) → Option (Bool × (LI_ × (Int × Int))) := fun x0 x1 => call 59 (x0, x1)
def g60 (call : CallFn E) : HK_ → LL_ → Option (LL_ × Int) := fun x0 x1 => call 60 (x0, x1)
def g61 (call : CallFn E) : LL_ → Option (LI_) := fun x0 => call 61 x0
def g62 (call : CallFn E) : HK_ → Option (Bool) := fun x0 => call 62 x0
def g63 (call : CallFn E) : LL_ → LL_ → Option (LL_) := fun x0 x1 => call 63 (x0, x1)
def g64 (call : CallFn E) : Int → Option (ByteArray) := fun x0 => call 64 x0
def g65 (call : CallFn E) : LI_ → Int → Int → Option (Bool) := fun x0 x1 x2 => call 65 (x0, x1, x2)
def g66 (call : CallFn E) : LI_ → Int → Option (Int × Int × Int × Int) := fun x0 x1 => call 66 (x0, x1)
def g67 (call : CallFn E) : Int → LI_ → Int → Option (LI_ × Int) := fun x0 x1 x2 => call 67 (x0, x1, x2)
def g68 (call : CallFn E) : HK_ → Option (Bool) := fun x0 => call 68 x0
def g69 (call : CallFn E) : Int → LI_ → Option (LL_ × Int) := fun x0 x1 => call 69 (x0, x1)
def g102 (call : CallFn E) : LI_ → Option (LI_) := fun x0 => call 102 x0
def g103 (call : CallFn E) : Int → Option (Bool) := fun x0 => call 103 x0
def g104 (call : CallFn E) : LI_ → Int → Option (Int) := fun x0 x1 => call 104 (x0, x1)
def g107 (call : CallFn E) : Int → Option (ByteArray) := fun x0 => call 107 x0
def g108 (call : CallFn E) : (LI_ × (Int × Int)) → Option (Int × Bool × (LI_ × (Int × Int))) := fun x0 => call 108 x0
def g109 (call : CallFn E) : (LI_ × (Int × Int)) → Option (LI_ × Bool × (LI_ × (Int × Int))) := fun x0 => call 109 x0
def g110 (call : CallFn E) : LI_ → LI_ → Option (Bool) := fun x0 x1 => call 110 (x0, x1)
def g111 (call : CallFn E) : LL_ → LL_ → Int → Option (Bool) := fun x0 x1 x2 => call 111 (x0, x1, x2)
def g112 (call : CallFn E) : LL_ → Option (Bool) := fun x0 => call 112 x0
def g113 (call : CallFn E) : LI_ → Int → Int → Option (Int × Int) := fun x0 x1 x2 => call 113 (x0, x1, x2)
def g114 (call : CallFn E) : Int → LI_ → Option (Bool) := fun x0 x1 => call 114 (x0, x1)
def g145 (call : CallFn E) : LI_ → LI_ → Option (Bool) := fun x0 x1 => call 145 (x0, x1)
def g148 (call : CallFn E) : LI_ → Int → Option (Int) := fun x0 x1 => call 148 (x0, x1)
def g149 (call : CallFn E) : Int → LI_ → Option (Bool) := fun x0 x1 => call 149 (x0, x1)
def g150 (call : CallFn E) : LL_ → LL_ → Option (Bool) := fun x0 x1 => call 150 (x0, x1)
noncomputable def q4 (call : CallFn E) (n : Nat) (a0 : LI_) (a1 : LI_) : Option (Bool) := runHow E call n s4 (a0, a1) h4
theorem rr4 (call : CallFn E) (n : Nat) (a0 : LI_) (a1 : LI_) : q4 call n a0 a1 = r4 (g8 call) (g9 call) (g10 call) (g11 call) (g12 call)  a0 a1 := by kernel_rfl
theorem gq4 (n : Nat) (a0 : LI_) (a1 : LI_) : g4 (evalF E (n + 1)) a0 a1 = q4 (evalF E n) n a0 a1 := by kernel_rfl
noncomputable def q8 (call : CallFn E) (n : Nat) (a0 : LI_) (a1 : LI_) : Option (LI_ × Int × Int) := runHow E call n s8 (a0, a1) h8
theorem rr8 (call : CallFn E) (n : Nat) (a0 : LI_) (a1 : LI_) : q8 call n a0 a1 = r8 (g20 call) (g21 call)  a0 a1 := by kernel_rfl
theorem gq8 (n : Nat) (a0 : LI_) (a1 : LI_) : g8 (evalF E (n + 1)) a0 a1 = q8 (evalF E n) n a0 a1 := by kernel_rfl
noncomputable def q9 (call : CallFn E) (n : Nat) (a0 : LI_) (a1 : LI_) : Option (LI_ × Int × Int) := runHow E call n s9 (a0, a1) h9
theorem rr9 (call : CallFn E) (n : Nat) (a0 : LI_) (a1 : LI_) : q9 call n a0 a1 = r9 (g20 call) (g21 call) (g22 call)  a0 a1 := by kernel_rfl
theorem gq9 (n : Nat) (a0 : LI_) (a1 : LI_) : g9 (evalF E (n + 1)) a0 a1 = q9 (evalF E n) n a0 a1 := by kernel_rfl
noncomputable def q11 (call : CallFn E) (n : Nat) (a0 : LI_) (a1 : LI_) : Option (LI_ × Int × Int) := runHow E call n s11 (a0, a1) h11
theorem rr11 (call : CallFn E) (n : Nat) (a0 : LI_) (a1 : LI_) : q11 call n a0 a1 = r11 (g24 call) (g25 call) (g26 call) (g27 call)  a0 a1 := by kernel_rfl
theorem gq11 (n : Nat) (a0 : LI_) (a1 : LI_) : g11 (evalF E (n + 1)) a0 a1 = q11 (evalF E n) n a0 a1 := by kernel_rfl
noncomputable def q12 (call : CallFn E) (n : Nat) (a0 : LI_) (a1 : LI_) : Option (LI_ × Int × Int) := runHow E call n s12 (a0, a1) h12
theorem rr12 (call : CallFn E) (n : Nat) (a0 : LI_) (a1 : LI_) : q12 call n a0 a1 = r12 (g24 call) (g25 call) (g26 call) (g27 call) (g28 call)  a0 a1 := by kernel_rfl
theorem gq12 (n : Nat) (a0 : LI_) (a1 : LI_) : g12 (evalF E (n + 1)) a0 a1 = q12 (evalF E n) n a0 a1 := by kernel_rfl
def L20_0 : LH := ⟨[0, 3, 6, 7], ⟨[.dat TB_, .ref 0, .ptr 1 0, .dat (.int .i64)], [.row TK_, .var (.pair TB_ (.pair (.int .i64) (.one (.int .i64))))]⟩, 0⟩
noncomputable def b20_0 : Code := codeAt c20 [1, 1, 1, 1, 0, 0, 0]
noncomputable def lq20_0 (call : CallFn E) (n m : Nat) (y : LI_ × Int × HK_ × (LI_ × (Int × Int))) : Option ((LI_ × Int × HK_ × (LI_ × (Int × Int))) ⊕ (Int × HK_ × Int × Int)) := loopAt (ctxOf E call n s20 Tryz.f20 hs20) b20_0 [0, 0, 1, 1, 1, 1] L20_0 m y
theorem lp20_0 (call : CallFn E) (n m : Nat) (y : LI_ × Int × HK_ × (LI_ × (Int × Int))) : lq20_0 call n (m + 1) y = F20_0 (g56 call) (g57 call) (g58 call) (g59 call)  (lq20_0 call n m) y := by kernel_rfl
noncomputable def q20 (call : CallFn E) (n : Nat) (a0 : LI_) : Option (Int × HK_ × Int × Int) := runHow E call n s20 a0 h20
theorem rr20 (call : CallFn E) (n : Nat) (a0 : LI_) : q20 call n a0 = r20 (g56 call) (g57 call) (g58 call) (g59 call) (lq20_0 call n n) a0 := by kernel_rfl
theorem gq20 (n : Nat) (a0 : LI_) : g20 (evalF E (n + 1)) a0 = q20 (evalF E n) n a0 := by kernel_rfl
noncomputable def q21 (call : CallFn E) (n : Nat) (a0 : Int) (a1 : HK_) (a2 : LI_) : Option (LI_ × Int) := runHow E call n s21 (a0, a1, a2) h21
theorem rr21 (call : CallFn E) (n : Nat) (a0 : Int) (a1 : HK_) (a2 : LI_) : q21 call n a0 a1 a2 = r21 (g49 call) (g60 call) (g61 call)  a0 a1 a2 := by kernel_rfl
theorem gq21 (n : Nat) (a0 : Int) (a1 : HK_) (a2 : LI_) : g21 (evalF E (n + 1)) a0 a1 a2 = q21 (evalF E n) n a0 a1 a2 := by kernel_rfl
def L22_0 : LH := ⟨[4, 5, 12, 13, 14], ⟨[.ref 0, .dat (.int .i64), .dat TH_, .dat (.int .i64), .dat (.int .i64)], [.row TK_]⟩, 0⟩
noncomputable def b22_0 : Code := codeAt c22 [1, 1, 1, 1, 0, 1, 0, 0]
noncomputable def lq22_0 (call : CallFn E) (n m : Nat) (y : Int × HK_ × Int × Int × HK_) : Option ((Int × HK_ × Int × Int × HK_) ⊕ (HK_ × Int)) := loopAt (ctxOf E call n s22 Tryz.f22 hs22) b22_0 [0, 1, 0, 1, 1, 1, 1] L22_0 m y
theorem lp22_0 (call : CallFn E) (n m : Nat) (y : Int × HK_ × Int × Int × HK_) : lq22_0 call n (m + 1) y = F22_0 (g62 call) (g63 call)  (lq22_0 call n m) y := by kernel_rfl
noncomputable def q22 (call : CallFn E) (n : Nat) (a0 : HK_) : Option (HK_ × Int) := runHow E call n s22 a0 h22
theorem rr22 (call : CallFn E) (n : Nat) (a0 : HK_) : q22 call n a0 = r22 (g62 call) (g63 call) (lq22_0 call n n) a0 := by kernel_rfl
theorem gq22 (n : Nat) (a0 : HK_) : g22 (evalF E (n + 1)) a0 = q22 (evalF E n) n a0 := by kernel_rfl
def L24_0 : LH := ⟨[0, 6, 7, 10], ⟨[.dat TB_, .dat (.int .i64), .dat (.int .i64), .ref 0], [.row TK_]⟩, 2⟩
noncomputable def b24_0 : Code := codeAt c24 [1, 1, 1, 1, 1, 0, 0, 0]
noncomputable def lq24_0 (call : CallFn E) (n m : Nat) (y : LI_ × Int × Int × HK_) : Option ((LI_ × Int × Int × HK_) ⊕ (Int × HK_ × Int × Int)) := loopAt (ctxOf E call n s24 Tryz.f24 hs24) b24_0 [0, 0, 1, 1, 1, 1, 1] L24_0 m y
def L24_1 : LH := ⟨[0, 6, 7, 8], ⟨[.dat TB_, .dat (.int .i64), .dat (.int .i64), .dat (.int .i64)], []⟩, 0⟩
noncomputable def b24_1 : Code := codeAt c24 [1, 1, 0, 1, 0, 0]
noncomputable def lq24_1 (call : CallFn E) (n m : Nat) (y : LI_ × Int × Int × Int) : Option ((LI_ × Int × Int × Int) ⊕ (Int × HK_ × Int × Int)) := loopAt (ctxOf E call n s24 Tryz.f24 hs24) b24_1 [0, 1, 0, 1, 1] L24_1 m y
def L24_2 : LH := ⟨[0, 6, 7, 10, 12, 13, 15, 16], ⟨[.dat TB_, .dat (.int .i64), .dat (.int .i64), .ref 0, .dat (.int .i64), .dat (.int .i64), .ptr 1 0, .dat (.int .i64)], [.row TK_, .vst TK_]⟩, 4⟩
noncomputable def b24_2 : Code := codeAt c24 [1, 1, 1, 1, 1, 0, 0, 0, 1, 0, 1, 1, 1, 1, 0, 1, 0, 0]
noncomputable def lq24_2 (call : CallFn E) (n m : Nat) (y : LI_ × Int × Int × Int × Int × Int × HK_ × (Int × (LL_ × LL_))) : Option ((LI_ × Int × Int × Int × Int × Int × HK_ × (Int × (LL_ × LL_))) ⊕ (Int × HK_ × Int × Int)) := loopAt (ctxOf E call n s24 Tryz.f24 hs24) b24_2 [0, 1, 0, 1, 1, 1, 1, 0, 1, 0, 0, 0, 1, 1, 1, 1, 1] L24_2 m y
theorem lp24_2 (call : CallFn E) (n m : Nat) (y : LI_ × Int × Int × Int × Int × Int × HK_ × (Int × (LL_ × LL_))) : lq24_2 call n (m + 1) y = F24_2 (g64 call) (g65 call) (g66 call) (g67 call)  (lq24_2 call n m) y := by kernel_rfl
theorem lp24_0 (call : CallFn E) (n m : Nat) (y : LI_ × Int × Int × HK_) : lq24_0 call n (m + 1) y = F24_0 (g64 call) (g65 call) (g66 call) (g67 call) (lq24_2 call n n) (lq24_0 call n m) y := by kernel_rfl
theorem lp24_1 (call : CallFn E) (n m : Nat) (y : LI_ × Int × Int × Int) : lq24_1 call n (m + 1) y = F24_1 (g64 call) (g65 call) (g66 call) (g67 call)  (lq24_1 call n m) y := by kernel_rfl
noncomputable def q24 (call : CallFn E) (n : Nat) (a0 : LI_) : Option (Int × HK_ × Int × Int) := runHow E call n s24 a0 h24
theorem rr24 (call : CallFn E) (n : Nat) (a0 : LI_) : q24 call n a0 = r24 (g64 call) (g65 call) (g66 call) (g67 call) (lq24_0 call n n) (lq24_1 call n n) (lq24_2 call n n) a0 := by kernel_rfl
theorem gq24 (n : Nat) (a0 : LI_) : g24 (evalF E (n + 1)) a0 = q24 (evalF E n) n a0 := by kernel_rfl
def L25_0 : LH := ⟨[0, 1, 6, 7, 8, 9, 10], ⟨[.dat TH_, .dat TT_, .ref 0, .dat (.int .i64), .dat (.int .i64), .ptr 1 0, .dat (.int .i64)], [.row TB_, .var TK_]⟩, 2⟩
noncomputable def b25_0 : Code := codeAt c25 [1, 1, 1, 1, 0, 1, 0, 0, 1, 0, 0, 1, 1, 0, 1, 0, 0]
noncomputable def lq25_0 (call : CallFn E) (n m : Nat) (y : HK_ × LL_ × Int × Int × Int × LL_ × (Int × (LL_ × LL_))) : Option ((HK_ × LL_ × Int × Int × Int × LL_ × (Int × (LL_ × LL_))) ⊕ (LL_ × Int)) := loopAt (ctxOf E call n s25 Tryz.f25 hs25) b25_0 [0, 1, 0, 1, 1, 0, 0, 1, 0, 0, 1, 0, 1, 1, 1, 1] L25_0 m y
def L25_1 : LH := ⟨[0, 1, 6, 7, 8], ⟨[.dat TH_, .dat TT_, .ref 0, .dat (.int .i64), .dat (.int .i64)], [.row TB_]⟩, 0⟩
noncomputable def b25_1 : Code := codeAt c25 [1, 1, 1, 1, 0, 1, 0, 0]
noncomputable def lq25_1 (call : CallFn E) (n m : Nat) (y : HK_ × LL_ × Int × Int × LL_) : Option ((HK_ × LL_ × Int × Int × LL_) ⊕ (LL_ × Int)) := loopAt (ctxOf E call n s25 Tryz.f25 hs25) b25_1 [0, 1, 0, 1, 1, 1, 1] L25_1 m y
theorem lp25_0 (call : CallFn E) (n m : Nat) (y : HK_ × LL_ × Int × Int × Int × LL_ × (Int × (LL_ × LL_))) : lq25_0 call n (m + 1) y = F25_0 (g68 call)  (lq25_0 call n m) y := by kernel_rfl
theorem lp25_1 (call : CallFn E) (n m : Nat) (y : HK_ × LL_ × Int × Int × LL_) : lq25_1 call n (m + 1) y = F25_1 (g68 call) (lq25_0 call n n) (lq25_1 call n m) y := by kernel_rfl
noncomputable def q25 (call : CallFn E) (n : Nat) (a0 : HK_) (a1 : LL_) : Option (LL_ × Int) := runHow E call n s25 (a0, a1) h25
theorem rr25 (call : CallFn E) (n : Nat) (a0 : HK_) (a1 : LL_) : q25 call n a0 a1 = r25 (g68 call) (lq25_0 call n n) (lq25_1 call n n) a0 a1 := by kernel_rfl
theorem gq25 (n : Nat) (a0 : HK_) (a1 : LL_) : g25 (evalF E (n + 1)) a0 a1 = q25 (evalF E n) n a0 a1 := by kernel_rfl
noncomputable def q26 (call : CallFn E) (n : Nat) (a0 : Int) (a1 : LI_) : Option (LL_) := runHow E call n s26 (a0, a1) h26
theorem rr26 (call : CallFn E) (n : Nat) (a0 : Int) (a1 : LI_) : q26 call n a0 a1 = r26 (g69 call)  a0 a1 := by kernel_rfl
theorem gq26 (n : Nat) (a0 : Int) (a1 : LI_) : g26 (evalF E (n + 1)) a0 a1 = q26 (evalF E n) n a0 a1 := by kernel_rfl
def L27_0 : LH := ⟨[0, 3, 4], ⟨[.dat TT_, .ref 0, .dat (.int .i64)], [.row (.int .u8)]⟩, 0⟩
noncomputable def b27_0 : Code := codeAt c27 [1, 1, 0, 1, 0, 0]
noncomputable def lq27_0 (call : CallFn E) (n m : Nat) (y : LL_ × Int × LI_) : Option ((LL_ × Int × LI_) ⊕ (LI_)) := loopAt (ctxOf E call n s27 Tryz.f27 hs27) b27_0 [0, 1, 0, 1, 1] L27_0 m y
theorem lp27_0 (call : CallFn E) (n m : Nat) (y : LL_ × Int × LI_) : lq27_0 call n (m + 1) y = F27_0   (lq27_0 call n m) y := by kernel_rfl
noncomputable def q27 (call : CallFn E) (n : Nat) (a0 : LL_) : Option (LI_) := runHow E call n s27 a0 h27
theorem rr27 (call : CallFn E) (n : Nat) (a0 : LL_) : q27 call n a0 = r27  (lq27_0 call n n) a0 := by kernel_rfl
theorem gq27 (n : Nat) (a0 : LL_) : g27 (evalF E (n + 1)) a0 = q27 (evalF E n) n a0 := by kernel_rfl
def L28_0 : LH := ⟨[0, 4, 5, 6], ⟨[.dat TH_, .ref 0, .dat (.int .i64), .dat (.int .i64)], [.row TK_]⟩, 0⟩
noncomputable def b28_0 : Code := codeAt c28 [1, 1, 1, 1, 0, 1, 0, 0]
noncomputable def lq28_0 (call : CallFn E) (n m : Nat) (y : HK_ × Int × Int × HK_) : Option ((HK_ × Int × Int × HK_) ⊕ (HK_ × Int)) := loopAt (ctxOf E call n s28 Tryz.f28 hs28) b28_0 [0, 1, 0, 1, 1, 1, 1] L28_0 m y
theorem lp28_0 (call : CallFn E) (n m : Nat) (y : HK_ × Int × Int × HK_) : lq28_0 call n (m + 1) y = F28_0 (g68 call)  (lq28_0 call n m) y := by kernel_rfl
noncomputable def q28 (call : CallFn E) (n : Nat) (a0 : HK_) : Option (HK_ × Int) := runHow E call n s28 a0 h28
theorem rr28 (call : CallFn E) (n : Nat) (a0 : HK_) : q28 call n a0 = r28 (g68 call) (lq28_0 call n n) a0 := by kernel_rfl
theorem gq28 (n : Nat) (a0 : HK_) : g28 (evalF E (n + 1)) a0 = q28 (evalF E n) n a0 := by kernel_rfl
def L49_0 : LH := ⟨[0, 1, 6], ⟨[.dat (.int .i64), .dat TB_, .ref 0], [.row TB_]⟩, 0⟩
noncomputable def b49_0 : Code := codeAt c49 [1, 1, 1, 0, 0, 0]
noncomputable def lq49_0 (call : CallFn E) (n m : Nat) (y : Int × LI_ × LL_) : Option ((Int × LI_ × LL_) ⊕ (LL_ × Int)) := loopAt (ctxOf E call n s49 Tryz.f49 hs49) b49_0 [0, 0, 1, 1, 1] L49_0 m y
theorem lp49_0 (call : CallFn E) (n m : Nat) (y : Int × LI_ × LL_) : lq49_0 call n (m + 1) y = F49_0 (g102 call) (g103 call) (g104 call)  (lq49_0 call n m) y := by kernel_rfl
noncomputable def q49 (call : CallFn E) (n : Nat) (a0 : Int) (a1 : LI_) : Option (LL_ × Int) := runHow E call n s49 (a0, a1) h49
theorem rr49 (call : CallFn E) (n : Nat) (a0 : Int) (a1 : LI_) : q49 call n a0 a1 = r49 (g102 call) (g103 call) (g104 call) (lq49_0 call n n) a0 a1 := by kernel_rfl
theorem gq49 (n : Nat) (a0 : Int) (a1 : LI_) : g49 (evalF E (n + 1)) a0 a1 = q49 (evalF E n) n a0 a1 := by kernel_rfl
def L56_0 : LH := ⟨[0, 5, 6, 7], ⟨[.ptr 0 0, .dat TI_, .dat (.int .i64), .dat (.int .i64)], [.var (.pair TB_ (.pair (.int .i64) (.one (.int .i64))))]⟩, 0⟩
noncomputable def b56_0 : Code := codeAt c56 [1, 0, 1, 0, 0]
noncomputable def lq56_0 (call : CallFn E) (n m : Nat) (y : LI_ × Int × Int × (LI_ × (Int × Int))) : Option ((LI_ × Int × Int × (LI_ × (Int × Int))) ⊕ (Bool × (LI_ × (Int × Int)))) := loopAt (ctxOf E call n s56 Tryz.f56 hs56) b56_0 [0, 1, 0, 1] L56_0 m y
theorem lp56_0 (call : CallFn E) (n m : Nat) (y : LI_ × Int × Int × (LI_ × (Int × Int))) : lq56_0 call n (m + 1) y = F56_0 (g59 call) (g107 call)  (lq56_0 call n m) y := by kernel_rfl
noncomputable def q56 (call : CallFn E) (n : Nat) (a0 : (LI_ × (Int × Int))) : Option (Bool × (LI_ × (Int × Int))) := runHow E call n s56 a0 h56
theorem rr56 (call : CallFn E) (n : Nat) (a0 : (LI_ × (Int × Int))) : q56 call n a0 = r56 (g59 call) (g107 call) (lq56_0 call n n) a0 := by kernel_rfl
theorem gq56 (n : Nat) (a0 : (LI_ × (Int × Int))) : g56 (evalF E (n + 1)) a0 = q56 (evalF E n) n a0 := by kernel_rfl
noncomputable def q57 (call : CallFn E) (n : Nat) (a0 : (LI_ × (Int × Int))) : Option (Int × Int × Int × Bool × (LI_ × (Int × Int))) := runHow E call n s57 a0 h57
theorem rr57 (call : CallFn E) (n : Nat) (a0 : (LI_ × (Int × Int))) : q57 call n a0 = r57 (g59 call) (g108 call)  a0 := by kernel_rfl
theorem gq57 (n : Nat) (a0 : (LI_ × (Int × Int))) : g57 (evalF E (n + 1)) a0 = q57 (evalF E n) n a0 := by kernel_rfl
def L58_0 : LH := ⟨[0, 4, 10, 11], ⟨[.ptr 0 0, .ref 1, .dat (.int .i64), .dat (.int .i64)], [.var (.pair TB_ (.pair (.int .i64) (.one (.int .i64)))), .row TB_]⟩, 0⟩
noncomputable def b58_0 : Code := codeAt c58 [1, 0, 1, 0, 0]
noncomputable def lq58_0 (call : CallFn E) (n m : Nat) (y : Int × Int × (LI_ × (Int × Int)) × LL_) : Option ((Int × Int × (LI_ × (Int × Int)) × LL_) ⊕ (LL_ × Int × Bool × (LI_ × (Int × Int)))) := loopAt (ctxOf E call n s58 Tryz.f58 hs58) b58_0 [0, 1, 0, 1] L58_0 m y
theorem lp58_0 (call : CallFn E) (n m : Nat) (y : Int × Int × (LI_ × (Int × Int)) × LL_) : lq58_0 call n (m + 1) y = F58_0 (g109 call)  (lq58_0 call n m) y := by kernel_rfl
noncomputable def q58 (call : CallFn E) (n : Nat) (a0 : Int) (a1 : (LI_ × (Int × Int))) : Option (LL_ × Int × Bool × (LI_ × (Int × Int))) := runHow E call n s58 (a0, a1) h58
theorem rr58 (call : CallFn E) (n : Nat) (a0 : Int) (a1 : (LI_ × (Int × Int))) : q58 call n a0 a1 = r58 (g109 call) (lq58_0 call n n) a0 a1 := by kernel_rfl
theorem gq58 (n : Nat) (a0 : Int) (a1 : (LI_ × (Int × Int))) : g58 (evalF E (n + 1)) a0 a1 = q58 (evalF E n) n a0 a1 := by kernel_rfl
noncomputable def q59 (call : CallFn E) (n : Nat) (a0 : ByteArray) (a1 : (LI_ × (Int × Int))) : Option (Bool × (LI_ × (Int × Int))) := runHow E call n s59 (a0, a1) h59
theorem rr59 (call : CallFn E) (n : Nat) (a0 : ByteArray) (a1 : (LI_ × (Int × Int))) : q59 call n a0 a1 = r59 (g110 call)  a0 a1 := by kernel_rfl
theorem gq59 (n : Nat) (a0 : ByteArray) (a1 : (LI_ × (Int × Int))) : g59 (evalF E (n + 1)) a0 a1 = q59 (evalF E n) n a0 a1 := by kernel_rfl
def L60_0 : LH := ⟨[1, 6, 7, 13, 14, 15], ⟨[.dat TT_, .ref 0, .dat (.int .i64), .dat TH_, .dat (.int .i64), .dat (.int .i64)], [.row TB_]⟩, 0⟩
noncomputable def b60_0 : Code := codeAt c60 [1, 1, 1, 1, 0, 1, 0, 0]
noncomputable def lq60_0 (call : CallFn E) (n m : Nat) (y : LL_ × Int × HK_ × Int × Int × LL_) : Option ((LL_ × Int × HK_ × Int × Int × LL_) ⊕ (LL_ × Int)) := loopAt (ctxOf E call n s60 Tryz.f60 hs60) b60_0 [0, 1, 0, 1, 1, 1, 1] L60_0 m y
theorem lp60_0 (call : CallFn E) (n m : Nat) (y : LL_ × Int × HK_ × Int × Int × LL_) : lq60_0 call n (m + 1) y = F60_0 (g62 call) (g63 call) (g111 call)  (lq60_0 call n m) y := by kernel_rfl
noncomputable def q60 (call : CallFn E) (n : Nat) (a0 : HK_) (a1 : LL_) : Option (LL_ × Int) := runHow E call n s60 (a0, a1) h60
theorem rr60 (call : CallFn E) (n : Nat) (a0 : HK_) (a1 : LL_) : q60 call n a0 a1 = r60 (g62 call) (g63 call) (g111 call) (lq60_0 call n n) a0 a1 := by kernel_rfl
theorem gq60 (n : Nat) (a0 : HK_) (a1 : LL_) : g60 (evalF E (n + 1)) a0 a1 = q60 (evalF E n) n a0 a1 := by kernel_rfl
def L61_0 : LH := ⟨[3, 6, 7, 8], ⟨[.ref 0, .dat TT_, .dat (.int .i64), .dat (.int .i64)], [.row (.int .u8)]⟩, 0⟩
noncomputable def b61_0 : Code := codeAt c61 [1, 1, 0, 1, 0, 0]
noncomputable def lq61_0 (call : CallFn E) (n m : Nat) (y : LL_ × Int × Int × LI_) : Option ((LL_ × Int × Int × LI_) ⊕ (LI_)) := loopAt (ctxOf E call n s61 Tryz.f61 hs61) b61_0 [0, 1, 0, 1, 1] L61_0 m y
theorem lp61_0 (call : CallFn E) (n m : Nat) (y : LL_ × Int × Int × LI_) : lq61_0 call n (m + 1) y = F61_0   (lq61_0 call n m) y := by kernel_rfl
noncomputable def q61 (call : CallFn E) (n : Nat) (a0 : LL_) : Option (LI_) := runHow E call n s61 a0 h61
theorem rr61 (call : CallFn E) (n : Nat) (a0 : LL_) : q61 call n a0 = r61  (lq61_0 call n n) a0 := by kernel_rfl
theorem gq61 (n : Nat) (a0 : LL_) : g61 (evalF E (n + 1)) a0 = q61 (evalF E n) n a0 := by kernel_rfl
def L62_0 : LH := ⟨[3, 6, 7, 8], ⟨[.dat (.int .i64), .dat TH_, .dat (.int .i64), .dat (.int .i64)], []⟩, 0⟩
noncomputable def b62_0 : Code := codeAt c62 [1, 1, 0, 1, 0, 0]
noncomputable def lq62_0 (call : CallFn E) (n m : Nat) (y : Int × HK_ × Int × Int) : Option ((Int × HK_ × Int × Int) ⊕ (Bool)) := loopAt (ctxOf E call n s62 Tryz.f62 hs62) b62_0 [0, 1, 0, 1, 1] L62_0 m y
theorem lp62_0 (call : CallFn E) (n m : Nat) (y : Int × HK_ × Int × Int) : lq62_0 call n (m + 1) y = F62_0 (g112 call)  (lq62_0 call n m) y := by kernel_rfl
noncomputable def q62 (call : CallFn E) (n : Nat) (a0 : HK_) : Option (Bool) := runHow E call n s62 a0 h62
theorem rr62 (call : CallFn E) (n : Nat) (a0 : HK_) : q62 call n a0 = r62 (g112 call) (lq62_0 call n n) a0 := by kernel_rfl
theorem gq62 (n : Nat) (a0 : HK_) : g62 (evalF E (n + 1)) a0 = q62 (evalF E n) n a0 := by kernel_rfl
def L63_0 : LH := ⟨[0, 7, 8, 9], ⟨[.ref 1, .dat TT_, .dat (.int .i64), .dat (.int .i64)], [.dead, .row TB_]⟩, 0⟩
noncomputable def b63_0 : Code := codeAt c63 [1, 0, 1, 0, 0]
noncomputable def lq63_0 (call : CallFn E) (n m : Nat) (y : LL_ × Int × Int × LL_) : Option ((LL_ × Int × Int × LL_) ⊕ (LL_)) := loopAt (ctxOf E call n s63 Tryz.f63 hs63) b63_0 [0, 1, 0, 1] L63_0 m y
theorem lp63_0 (call : CallFn E) (n m : Nat) (y : LL_ × Int × Int × LL_) : lq63_0 call n (m + 1) y = F63_0 (g102 call)  (lq63_0 call n m) y := by kernel_rfl
noncomputable def q63 (call : CallFn E) (n : Nat) (a0 : LL_) (a1 : LL_) : Option (LL_) := runHow E call n s63 (a0, a1) h63
theorem rr63 (call : CallFn E) (n : Nat) (a0 : LL_) (a1 : LL_) : q63 call n a0 a1 = r63 (g102 call) (lq63_0 call n n) a0 a1 := by kernel_rfl
theorem gq63 (n : Nat) (a0 : LL_) (a1 : LL_) : g63 (evalF E (n + 1)) a0 a1 = q63 (evalF E n) n a0 a1 := by kernel_rfl
noncomputable def q64 (call : CallFn E) (n : Nat) (a0 : Int) : Option (ByteArray) := runHow E call n s64 a0 h64
theorem rr64 (call : CallFn E) (n : Nat) (a0 : Int) : q64 call n a0 = r64   a0 := by kernel_rfl
theorem gq64 (n : Nat) (a0 : Int) : g64 (evalF E (n + 1)) a0 = q64 (evalF E n) n a0 := by kernel_rfl
noncomputable def q65 (call : CallFn E) (n : Nat) (a0 : LI_) (a1 : Int) (a2 : Int) : Option (Bool) := runHow E call n s65 (a0, a1, a2) h65
theorem rr65 (call : CallFn E) (n : Nat) (a0 : LI_) (a1 : Int) (a2 : Int) : q65 call n a0 a1 a2 = r65   a0 a1 a2 := by kernel_rfl
theorem gq65 (n : Nat) (a0 : LI_) (a1 : Int) (a2 : Int) : g65 (evalF E (n + 1)) a0 a1 a2 = q65 (evalF E n) n a0 a1 a2 := by kernel_rfl
noncomputable def q66 (call : CallFn E) (n : Nat) (a0 : LI_) (a1 : Int) : Option (Int × Int × Int × Int) := runHow E call n s66 (a0, a1) h66
theorem rr66 (call : CallFn E) (n : Nat) (a0 : LI_) (a1 : Int) : q66 call n a0 a1 = r66 (g65 call) (g113 call)  a0 a1 := by kernel_rfl
theorem gq66 (n : Nat) (a0 : LI_) (a1 : Int) : g66 (evalF E (n + 1)) a0 a1 = q66 (evalF E n) n a0 a1 := by kernel_rfl
noncomputable def q67 (call : CallFn E) (n : Nat) (a0 : Int) (a1 : LI_) (a2 : Int) : Option (LI_ × Int) := runHow E call n s67 (a0, a1, a2) h67
theorem rr67 (call : CallFn E) (n : Nat) (a0 : Int) (a1 : LI_) (a2 : Int) : q67 call n a0 a1 a2 = r67 (g65 call) (g113 call) (g114 call)  a0 a1 a2 := by kernel_rfl
theorem gq67 (n : Nat) (a0 : Int) (a1 : LI_) (a2 : Int) : g67 (evalF E (n + 1)) a0 a1 a2 = q67 (evalF E n) n a0 a1 a2 := by kernel_rfl
def L68_0 : LH := ⟨[0, 3], ⟨[.dat TH_, .dat (.int .i64)], []⟩, 0⟩
noncomputable def b68_0 : Code := codeAt c68 [1, 0, 1, 0, 0]
noncomputable def lq68_0 (call : CallFn E) (n m : Nat) (y : HK_ × Int) : Option ((HK_ × Int) ⊕ (Bool)) := loopAt (ctxOf E call n s68 Tryz.f68 hs68) b68_0 [0, 1, 0, 1] L68_0 m y
def L68_1 : LH := ⟨[0, 3, 4, 5], ⟨[.dat TH_, .dat (.int .i64), .ptr 0 0, .dat (.int .i64)], [.var TK_]⟩, 2⟩
noncomputable def b68_1 : Code := codeAt c68 [1, 0, 1, 0, 0, 1, 0, 0, 1, 1, 1, 0, 1, 0, 0]
noncomputable def lq68_1 (call : CallFn E) (n m : Nat) (y : HK_ × Int × Int × (Int × (LL_ × LL_))) : Option ((HK_ × Int × Int × (Int × (LL_ × LL_))) ⊕ (Bool)) := loopAt (ctxOf E call n s68 Tryz.f68 hs68) b68_1 [0, 1, 0, 1, 1, 1, 0, 0, 1, 0, 0, 1, 0, 1] L68_1 m y
def L68_2 : LH := ⟨[0, 3, 4, 6], ⟨[.dat TH_, .dat (.int .i64), .ptr 0 0, .dat (.int .i64)], [.var TK_]⟩, 4⟩
noncomputable def b68_2 : Code := codeAt c68 [1, 0, 1, 0, 0, 1, 0, 0, 1, 1, 1, 1, 1, 0, 0]
noncomputable def lq68_2 (call : CallFn E) (n m : Nat) (y : HK_ × Int × Int × (Int × (LL_ × LL_))) : Option ((HK_ × Int × Int × (Int × (LL_ × LL_))) ⊕ (Bool)) := loopAt (ctxOf E call n s68 Tryz.f68 hs68) b68_2 [0, 1, 1, 1, 1, 1, 0, 0, 1, 0, 0, 1, 0, 1] L68_2 m y
theorem lp68_1 (call : CallFn E) (n m : Nat) (y : HK_ × Int × Int × (Int × (LL_ × LL_))) : lq68_1 call n (m + 1) y = F68_1   (lq68_1 call n m) y := by kernel_rfl
theorem lp68_2 (call : CallFn E) (n m : Nat) (y : HK_ × Int × Int × (Int × (LL_ × LL_))) : lq68_2 call n (m + 1) y = F68_2   (lq68_2 call n m) y := by kernel_rfl
theorem lp68_0 (call : CallFn E) (n m : Nat) (y : HK_ × Int) : lq68_0 call n (m + 1) y = F68_0  (lq68_1 call n n) (lq68_2 call n n) (lq68_0 call n m) y := by kernel_rfl
noncomputable def q68 (call : CallFn E) (n : Nat) (a0 : HK_) : Option (Bool) := runHow E call n s68 a0 h68
theorem rr68 (call : CallFn E) (n : Nat) (a0 : HK_) : q68 call n a0 = r68  (lq68_0 call n n) (lq68_1 call n n) (lq68_2 call n n) a0 := by kernel_rfl
theorem gq68 (n : Nat) (a0 : HK_) : g68 (evalF E (n + 1)) a0 = q68 (evalF E n) n a0 := by kernel_rfl
def L69_0 : LH := ⟨[0, 1, 6, 7, 8], ⟨[.dat (.int .i64), .dat TB_, .ref 0, .dat (.int .i64), .dat (.int .i64)], [.row TB_]⟩, 0⟩
noncomputable def b69_0 : Code := codeAt c69 [1, 1, 1, 1, 0, 1, 0, 0]
noncomputable def lq69_0 (call : CallFn E) (n m : Nat) (y : Int × LI_ × Int × Int × LL_) : Option ((Int × LI_ × Int × Int × LL_) ⊕ (LL_ × Int)) := loopAt (ctxOf E call n s69 Tryz.f69 hs69) b69_0 [0, 1, 0, 1, 1, 1, 1] L69_0 m y
theorem lp69_0 (call : CallFn E) (n m : Nat) (y : Int × LI_ × Int × Int × LL_) : lq69_0 call n (m + 1) y = F69_0   (lq69_0 call n m) y := by kernel_rfl
noncomputable def q69 (call : CallFn E) (n : Nat) (a0 : Int) (a1 : LI_) : Option (LL_ × Int) := runHow E call n s69 (a0, a1) h69
theorem rr69 (call : CallFn E) (n : Nat) (a0 : Int) (a1 : LI_) : q69 call n a0 a1 = r69  (lq69_0 call n n) a0 a1 := by kernel_rfl
theorem gq69 (n : Nat) (a0 : Int) (a1 : LI_) : g69 (evalF E (n + 1)) a0 a1 = q69 (evalF E n) n a0 a1 := by kernel_rfl
noncomputable def q103 (call : CallFn E) (n : Nat) (a0 : Int) : Option (Bool) := runHow E call n s103 a0 h103
theorem rr103 (call : CallFn E) (n : Nat) (a0 : Int) : q103 call n a0 = r103   a0 := by kernel_rfl
theorem gq103 (n : Nat) (a0 : Int) : g103 (evalF E (n + 1)) a0 = q103 (evalF E n) n a0 := by kernel_rfl
noncomputable def q104 (call : CallFn E) (n : Nat) (a0 : LI_) (a1 : Int) : Option (Int) := runHow E call n s104 (a0, a1) h104
theorem rr104 (call : CallFn E) (n : Nat) (a0 : LI_) (a1 : Int) : q104 call n a0 a1 = r104 (g148 call)  a0 a1 := by kernel_rfl
theorem gq104 (n : Nat) (a0 : LI_) (a1 : Int) : g104 (evalF E (n + 1)) a0 a1 = q104 (evalF E n) n a0 a1 := by kernel_rfl
noncomputable def q107 (call : CallFn E) (n : Nat) (a0 : Int) : Option (ByteArray) := runHow E call n s107 a0 h107
theorem rr107 (call : CallFn E) (n : Nat) (a0 : Int) : q107 call n a0 = r107   a0 := by kernel_rfl
theorem gq107 (n : Nat) (a0 : Int) : g107 (evalF E (n + 1)) a0 = q107 (evalF E n) n a0 := by kernel_rfl
def L108_0 : LH := ⟨[0, 4, 5], ⟨[.ptr 0 0, .dat (.int .i64), .dat (.int .i64)], [.var (.pair TB_ (.pair (.int .i64) (.one (.int .i64))))]⟩, 0⟩
noncomputable def b108_0 : Code := codeAt c108 [1, 1, 0, 0, 0]
noncomputable def lq108_0 (call : CallFn E) (n m : Nat) (y : Int × Int × (LI_ × (Int × Int))) : Option ((Int × Int × (LI_ × (Int × Int))) ⊕ (Int × Bool × (LI_ × (Int × Int)))) := loopAt (ctxOf E call n s108 Tryz.f108 hs108) b108_0 [0, 0, 1, 1] L108_0 m y
theorem lp108_0 (call : CallFn E) (n m : Nat) (y : Int × Int × (LI_ × (Int × Int))) : lq108_0 call n (m + 1) y = F108_0   (lq108_0 call n m) y := by kernel_rfl
noncomputable def q108 (call : CallFn E) (n : Nat) (a0 : (LI_ × (Int × Int))) : Option (Int × Bool × (LI_ × (Int × Int))) := runHow E call n s108 a0 h108
theorem rr108 (call : CallFn E) (n : Nat) (a0 : (LI_ × (Int × Int))) : q108 call n a0 = r108  (lq108_0 call n n) a0 := by kernel_rfl
theorem gq108 (n : Nat) (a0 : (LI_ × (Int × Int))) : g108 (evalF E (n + 1)) a0 = q108 (evalF E n) n a0 := by kernel_rfl
noncomputable def q109 (call : CallFn E) (n : Nat) (a0 : (LI_ × (Int × Int))) : Option (LI_ × Bool × (LI_ × (Int × Int))) := runHow E call n s109 a0 h109
theorem rr109 (call : CallFn E) (n : Nat) (a0 : (LI_ × (Int × Int))) : q109 call n a0 = r109 (g59 call) (g102 call) (g108 call) (g149 call)  a0 := by kernel_rfl
theorem gq109 (n : Nat) (a0 : (LI_ × (Int × Int))) : g109 (evalF E (n + 1)) a0 = q109 (evalF E n) n a0 := by kernel_rfl
noncomputable def q110 (call : CallFn E) (n : Nat) (a0 : LI_) (a1 : LI_) : Option (Bool) := runHow E call n s110 (a0, a1) h110
theorem rr110 (call : CallFn E) (n : Nat) (a0 : LI_) (a1 : LI_) : q110 call n a0 a1 = r110 (g145 call)  a0 a1 := by kernel_rfl
theorem gq110 (n : Nat) (a0 : LI_) (a1 : LI_) : g110 (evalF E (n + 1)) a0 a1 = q110 (evalF E n) n a0 a1 := by kernel_rfl
noncomputable def q111 (call : CallFn E) (n : Nat) (a0 : LL_) (a1 : LL_) (a2 : Int) : Option (Bool) := runHow E call n s111 (a0, a1, a2) h111
theorem rr111 (call : CallFn E) (n : Nat) (a0 : LL_) (a1 : LL_) (a2 : Int) : q111 call n a0 a1 a2 = r111 (g150 call)  a0 a1 a2 := by kernel_rfl
theorem gq111 (n : Nat) (a0 : LL_) (a1 : LL_) (a2 : Int) : g111 (evalF E (n + 1)) a0 a1 a2 = q111 (evalF E n) n a0 a1 a2 := by kernel_rfl
def L112_0 : LH := ⟨[5, 6, 7], ⟨[.dat TT_, .dat (.int .i64), .dat (.int .i64)], []⟩, 0⟩
noncomputable def b112_0 : Code := codeAt c112 [1, 0, 1, 0, 0]
noncomputable def lq112_0 (call : CallFn E) (n m : Nat) (y : LL_ × Int × Int) : Option ((LL_ × Int × Int) ⊕ (Bool)) := loopAt (ctxOf E call n s112 Tryz.f112 hs112) b112_0 [0, 1, 0, 1] L112_0 m y
theorem lp112_0 (call : CallFn E) (n m : Nat) (y : LL_ × Int × Int) : lq112_0 call n (m + 1) y = F112_0   (lq112_0 call n m) y := by kernel_rfl
noncomputable def q112 (call : CallFn E) (n : Nat) (a0 : LL_) : Option (Bool) := runHow E call n s112 a0 h112
theorem rr112 (call : CallFn E) (n : Nat) (a0 : LL_) : q112 call n a0 = r112  (lq112_0 call n n) a0 := by kernel_rfl
theorem gq112 (n : Nat) (a0 : LL_) : g112 (evalF E (n + 1)) a0 = q112 (evalF E n) n a0 := by kernel_rfl
def L113_0 : LH := ⟨[0, 1, 2, 8, 9], ⟨[.dat TB_, .dat (.int .i64), .dat (.int .i64), .dat (.int .i64), .dat (.int .i64)], []⟩, 0⟩
noncomputable def b113_0 : Code := codeAt c113 [1, 1, 0, 0, 0]
noncomputable def lq113_0 (call : CallFn E) (n m : Nat) (y : LI_ × Int × Int × Int × Int) : Option ((LI_ × Int × Int × Int × Int) ⊕ (Int × Int)) := loopAt (ctxOf E call n s113 Tryz.f113 hs113) b113_0 [0, 0, 1, 1] L113_0 m y
theorem lp113_0 (call : CallFn E) (n m : Nat) (y : LI_ × Int × Int × Int × Int) : lq113_0 call n (m + 1) y = F113_0   (lq113_0 call n m) y := by kernel_rfl
noncomputable def q113 (call : CallFn E) (n : Nat) (a0 : LI_) (a1 : Int) (a2 : Int) : Option (Int × Int) := runHow E call n s113 (a0, a1, a2) h113
theorem rr113 (call : CallFn E) (n : Nat) (a0 : LI_) (a1 : Int) (a2 : Int) : q113 call n a0 a1 a2 = r113  (lq113_0 call n n) a0 a1 a2 := by kernel_rfl
theorem gq113 (n : Nat) (a0 : LI_) (a1 : Int) (a2 : Int) : g113 (evalF E (n + 1)) a0 a1 a2 = q113 (evalF E n) n a0 a1 a2 := by kernel_rfl
def L114_0 : LH := ⟨[1, 5], ⟨[.dat TB_, .dat (.int .i64)], []⟩, 0⟩
noncomputable def b114_0 : Code := codeAt c114 [1, 1, 1, 0, 1, 0, 0]
noncomputable def lq114_0 (call : CallFn E) (n m : Nat) (y : LI_ × Int) : Option ((LI_ × Int) ⊕ (Bool)) := loopAt (ctxOf E call n s114 Tryz.f114 hs114) b114_0 [0, 1, 0, 1, 1, 1] L114_0 m y
theorem lp114_0 (call : CallFn E) (n m : Nat) (y : LI_ × Int) : lq114_0 call n (m + 1) y = F114_0   (lq114_0 call n m) y := by kernel_rfl
noncomputable def q114 (call : CallFn E) (n : Nat) (a0 : Int) (a1 : LI_) : Option (Bool) := runHow E call n s114 (a0, a1) h114
theorem rr114 (call : CallFn E) (n : Nat) (a0 : Int) (a1 : LI_) : q114 call n a0 a1 = r114  (lq114_0 call n n) a0 a1 := by kernel_rfl
theorem gq114 (n : Nat) (a0 : Int) (a1 : LI_) : g114 (evalF E (n + 1)) a0 a1 = q114 (evalF E n) n a0 a1 := by kernel_rfl
noncomputable def q145 (call : CallFn E) (n : Nat) (a0 : LI_) (a1 : LI_) : Option (Bool) := runHow E call n s145 (a0, a1) h145
theorem rr145 (call : CallFn E) (n : Nat) (a0 : LI_) (a1 : LI_) : q145 call n a0 a1 = r145   a0 a1 := by kernel_rfl
theorem gq145 (n : Nat) (a0 : LI_) (a1 : LI_) : g145 (evalF E (n + 1)) a0 a1 = q145 (evalF E n) n a0 a1 := by kernel_rfl
noncomputable def q149 (call : CallFn E) (n : Nat) (a0 : Int) (a1 : LI_) : Option (Bool) := runHow E call n s149 (a0, a1) h149
theorem rr149 (call : CallFn E) (n : Nat) (a0 : Int) (a1 : LI_) : q149 call n a0 a1 = r149 (g104 call)  a0 a1 := by kernel_rfl
theorem gq149 (n : Nat) (a0 : Int) (a1 : LI_) : g149 (evalF E (n + 1)) a0 a1 = q149 (evalF E n) n a0 a1 := by kernel_rfl
def L150_0 : LH := ⟨[1, 2, 15, 16, 17], ⟨[.dat TT_, .fnc 145 [], .dat TT_, .dat (.int .i64), .dat (.int .i64)], []⟩, 0⟩
noncomputable def b150_0 : Code := codeAt c150 [1, 1, 0, 1, 0, 0]
noncomputable def lq150_0 (call : CallFn E) (n m : Nat) (y : LL_ × LL_ × Int × Int) : Option ((LL_ × LL_ × Int × Int) ⊕ (Bool)) := loopAt (ctxOf E call n s150 Tryz.f150 hs150) b150_0 [0, 1, 0, 1, 1] L150_0 m y
theorem lp150_0 (call : CallFn E) (n m : Nat) (y : LL_ × LL_ × Int × Int) : lq150_0 call n (m + 1) y = F150_0 (g145 call)  (lq150_0 call n m) y := by kernel_rfl
noncomputable def q150 (call : CallFn E) (n : Nat) (a0 : LL_) (a1 : LL_) : Option (Bool) := runHow E call n s150 (a0, a1) h150
theorem rr150 (call : CallFn E) (n : Nat) (a0 : LL_) (a1 : LL_) : q150 call n a0 a1 = r150 (g145 call) (lq150_0 call n n) a0 a1 := by kernel_rfl
theorem gq150 (n : Nat) (a0 : LL_) (a1 : LL_) : g150 (evalF E (n + 1)) a0 a1 = q150 (evalF E n) n a0 a1 := by kernel_rfl
def R145 : Nat → LI_ → LI_ → Option (Bool)
  | 0, _, _ => none
  | n + 1, a0, a1 => r145   a0 a1
theorem u145 (n : Nat) (a0 : LI_) (a1 : LI_) : R145 (n + 1) a0 a1 = r145   a0 a1 := rfl
theorem e145 : ∀ (n : Nat), g145 (evalF E n) = R145 n
  | 0 => by funext a0 a1; rfl
  | n + 1 => by
    funext a0 a1
    rw [gq145, rr145]
    rfl
def R110 : Nat → LI_ → LI_ → Option (Bool)
  | 0, _, _ => none
  | n + 1, a0, a1 => r110 (R145 n)  a0 a1
theorem u110 (n : Nat) (a0 : LI_) (a1 : LI_) : R110 (n + 1) a0 a1 = r110 (R145 n)  a0 a1 := rfl
theorem e110 : ∀ (n : Nat), g110 (evalF E n) = R110 n
  | 0 => by funext a0 a1; rfl
  | n + 1 => by
    funext a0 a1
    rw [gq110, rr110]
    simp only [e145 n]
    rfl
def R59 : Nat → ByteArray → (LI_ × (Int × Int)) → Option (Bool × (LI_ × (Int × Int)))
  | 0, _, _ => none
  | n + 1, a0, a1 => r59 (R110 n)  a0 a1
theorem u59 (n : Nat) (a0 : ByteArray) (a1 : (LI_ × (Int × Int))) : R59 (n + 1) a0 a1 = r59 (R110 n)  a0 a1 := rfl
theorem e59 : ∀ (n : Nat), g59 (evalF E n) = R59 n
  | 0 => by funext a0 a1; rfl
  | n + 1 => by
    funext a0 a1
    rw [gq59, rr59]
    simp only [e110 n]
    rfl
def R107 : Nat → Int → Option (ByteArray)
  | 0, _ => none
  | n + 1, a0 => r107   a0
theorem u107 (n : Nat) (a0 : Int) : R107 (n + 1) a0 = r107   a0 := rfl
theorem e107 : ∀ (n : Nat), g107 (evalF E n) = R107 n
  | 0 => by funext a0; rfl
  | n + 1 => by
    funext a0
    rw [gq107, rr107]
    rfl
def R56 : Nat → (LI_ × (Int × Int)) → Option (Bool × (LI_ × (Int × Int)))
  | 0, _ => none
  | n + 1, a0 => r56 (R59 n) (R107 n) (iter (F56_0 (R59 n) (R107 n) ) n) a0
def J56_0 (n m : Nat) : (LI_ × Int × Int × (LI_ × (Int × Int))) → Option ((LI_ × Int × Int × (LI_ × (Int × Int))) ⊕ (Bool × (LI_ × (Int × Int)))) := iter (F56_0 (R59 n) (R107 n) ) m
theorem j56_0 (n m : Nat) (x : LI_ × Int × Int × (LI_ × (Int × Int))) : J56_0 n (m + 1) x = F56_0 (R59 n) (R107 n)  (J56_0 n m) x := rfl
theorem u56 (n : Nat) (a0 : (LI_ × (Int × Int))) : R56 (n + 1) a0 = r56 (R59 n) (R107 n) (J56_0 n n) a0 := rfl
theorem e56 : ∀ (n : Nat), g56 (evalF E n) = R56 n
  | 0 => by funext a0; rfl
  | n + 1 => by
    have l0 : lq56_0 (evalF E n) n n = (iter (F56_0 (R59 n) (R107 n) ) n) := iter_of (g := lq56_0 (evalF E n) n) rfl (fun m y => by rw [lp56_0]; simp only [e59 n, e107 n]) n
    funext a0
    rw [gq56, rr56]
    simp only [e59 n, e107 n, l0]
    rfl
def R108 : Nat → (LI_ × (Int × Int)) → Option (Int × Bool × (LI_ × (Int × Int)))
  | 0, _ => none
  | n + 1, a0 => r108  (iter (F108_0  ) n) a0
def J108_0 (n m : Nat) : (Int × Int × (LI_ × (Int × Int))) → Option ((Int × Int × (LI_ × (Int × Int))) ⊕ (Int × Bool × (LI_ × (Int × Int)))) := iter (F108_0  ) m
theorem j108_0 (n m : Nat) (x : Int × Int × (LI_ × (Int × Int))) : J108_0 n (m + 1) x = F108_0   (J108_0 n m) x := rfl
theorem u108 (n : Nat) (a0 : (LI_ × (Int × Int))) : R108 (n + 1) a0 = r108  (J108_0 n n) a0 := rfl
theorem e108 : ∀ (n : Nat), g108 (evalF E n) = R108 n
  | 0 => by funext a0; rfl
  | n + 1 => by
    have l0 : lq108_0 (evalF E n) n n = (iter (F108_0  ) n) := iter_of (g := lq108_0 (evalF E n) n) rfl (fun m y => by rw [lp108_0]) n
    funext a0
    rw [gq108, rr108]
    simp only [l0]
    rfl
def R57 : Nat → (LI_ × (Int × Int)) → Option (Int × Int × Int × Bool × (LI_ × (Int × Int)))
  | 0, _ => none
  | n + 1, a0 => r57 (R59 n) (R108 n)  a0
theorem u57 (n : Nat) (a0 : (LI_ × (Int × Int))) : R57 (n + 1) a0 = r57 (R59 n) (R108 n)  a0 := rfl
theorem e57 : ∀ (n : Nat), g57 (evalF E n) = R57 n
  | 0 => by funext a0; rfl
  | n + 1 => by
    funext a0
    rw [gq57, rr57]
    simp only [e59 n, e108 n]
    rfl
def R102 : Nat → LI_ → Option (LI_)
  | 0, _ => none
  | _ + 1, a0 => BytesX.cloneB a0
theorem e102 (n : Nat) : g102 (evalF E n) = R102 n := by cases n <;> rfl
def R148 : Nat → LI_ → Int → Option (Int)
  | 0, _, _ => none
  | _ + 1, a0, a1 => BytesX.indexB (a0, a1)
theorem e148 (n : Nat) : g148 (evalF E n) = R148 n := by cases n <;> rfl
def R104 : Nat → LI_ → Int → Option (Int)
  | 0, _, _ => none
  | n + 1, a0, a1 => r104 (R148 n)  a0 a1
theorem u104 (n : Nat) (a0 : LI_) (a1 : Int) : R104 (n + 1) a0 a1 = r104 (R148 n)  a0 a1 := rfl
theorem e104 : ∀ (n : Nat), g104 (evalF E n) = R104 n
  | 0 => by funext a0 a1; rfl
  | n + 1 => by
    funext a0 a1
    rw [gq104, rr104]
    simp only [e148 n]
    rfl
def R149 : Nat → Int → LI_ → Option (Bool)
  | 0, _, _ => none
  | n + 1, a0, a1 => r149 (R104 n)  a0 a1
theorem u149 (n : Nat) (a0 : Int) (a1 : LI_) : R149 (n + 1) a0 a1 = r149 (R104 n)  a0 a1 := rfl
theorem e149 : ∀ (n : Nat), g149 (evalF E n) = R149 n
  | 0 => by funext a0 a1; rfl
  | n + 1 => by
    funext a0 a1
    rw [gq149, rr149]
    simp only [e104 n]
    rfl
def R109 : Nat → (LI_ × (Int × Int)) → Option (LI_ × Bool × (LI_ × (Int × Int)))
  | 0, _ => none
  | n + 1, a0 => r109 (R59 n) (R102 n) (R108 n) (R149 n)  a0
theorem u109 (n : Nat) (a0 : (LI_ × (Int × Int))) : R109 (n + 1) a0 = r109 (R59 n) (R102 n) (R108 n) (R149 n)  a0 := rfl
theorem e109 : ∀ (n : Nat), g109 (evalF E n) = R109 n
  | 0 => by funext a0; rfl
  | n + 1 => by
    funext a0
    rw [gq109, rr109]
    simp only [e59 n, e102 n, e108 n, e149 n]
    rfl
def R58 : Nat → Int → (LI_ × (Int × Int)) → Option (LL_ × Int × Bool × (LI_ × (Int × Int)))
  | 0, _, _ => none
  | n + 1, a0, a1 => r58 (R109 n) (iter (F58_0 (R109 n) ) n) a0 a1
def J58_0 (n m : Nat) : (Int × Int × (LI_ × (Int × Int)) × LL_) → Option ((Int × Int × (LI_ × (Int × Int)) × LL_) ⊕ (LL_ × Int × Bool × (LI_ × (Int × Int)))) := iter (F58_0 (R109 n) ) m
theorem j58_0 (n m : Nat) (x : Int × Int × (LI_ × (Int × Int)) × LL_) : J58_0 n (m + 1) x = F58_0 (R109 n)  (J58_0 n m) x := rfl
theorem u58 (n : Nat) (a0 : Int) (a1 : (LI_ × (Int × Int))) : R58 (n + 1) a0 a1 = r58 (R109 n) (J58_0 n n) a0 a1 := rfl
theorem e58 : ∀ (n : Nat), g58 (evalF E n) = R58 n
  | 0 => by funext a0 a1; rfl
  | n + 1 => by
    have l0 : lq58_0 (evalF E n) n n = (iter (F58_0 (R109 n) ) n) := iter_of (g := lq58_0 (evalF E n) n) rfl (fun m y => by rw [lp58_0]; simp only [e109 n]) n
    funext a0 a1
    rw [gq58, rr58]
    simp only [e109 n, l0]
    rfl
def R20 : Nat → LI_ → Option (Int × HK_ × Int × Int)
  | 0, _ => none
  | n + 1, a0 => r20 (R56 n) (R57 n) (R58 n) (R59 n) (iter (F20_0 (R56 n) (R57 n) (R58 n) (R59 n) ) n) a0
def J20_0 (n m : Nat) : (LI_ × Int × HK_ × (LI_ × (Int × Int))) → Option ((LI_ × Int × HK_ × (LI_ × (Int × Int))) ⊕ (Int × HK_ × Int × Int)) := iter (F20_0 (R56 n) (R57 n) (R58 n) (R59 n) ) m
theorem j20_0 (n m : Nat) (x : LI_ × Int × HK_ × (LI_ × (Int × Int))) : J20_0 n (m + 1) x = F20_0 (R56 n) (R57 n) (R58 n) (R59 n)  (J20_0 n m) x := rfl
theorem u20 (n : Nat) (a0 : LI_) : R20 (n + 1) a0 = r20 (R56 n) (R57 n) (R58 n) (R59 n) (J20_0 n n) a0 := rfl
theorem e20 : ∀ (n : Nat), g20 (evalF E n) = R20 n
  | 0 => by funext a0; rfl
  | n + 1 => by
    have l0 : lq20_0 (evalF E n) n n = (iter (F20_0 (R56 n) (R57 n) (R58 n) (R59 n) ) n) := iter_of (g := lq20_0 (evalF E n) n) rfl (fun m y => by rw [lp20_0]; simp only [e56 n, e57 n, e58 n, e59 n]) n
    funext a0
    rw [gq20, rr20]
    simp only [e56 n, e57 n, e58 n, e59 n, l0]
    rfl
def R103 : Nat → Int → Option (Bool)
  | 0, _ => none
  | n + 1, a0 => r103   a0
theorem u103 (n : Nat) (a0 : Int) : R103 (n + 1) a0 = r103   a0 := rfl
theorem e103 : ∀ (n : Nat), g103 (evalF E n) = R103 n
  | 0 => by funext a0; rfl
  | n + 1 => by
    funext a0
    rw [gq103, rr103]
    rfl
def R49 : Nat → Int → LI_ → Option (LL_ × Int)
  | 0, _, _ => none
  | n + 1, a0, a1 => r49 (R102 n) (R103 n) (R104 n) (iter (F49_0 (R102 n) (R103 n) (R104 n) ) n) a0 a1
def J49_0 (n m : Nat) : (Int × LI_ × LL_) → Option ((Int × LI_ × LL_) ⊕ (LL_ × Int)) := iter (F49_0 (R102 n) (R103 n) (R104 n) ) m
theorem j49_0 (n m : Nat) (x : Int × LI_ × LL_) : J49_0 n (m + 1) x = F49_0 (R102 n) (R103 n) (R104 n)  (J49_0 n m) x := rfl
theorem u49 (n : Nat) (a0 : Int) (a1 : LI_) : R49 (n + 1) a0 a1 = r49 (R102 n) (R103 n) (R104 n) (J49_0 n n) a0 a1 := rfl
theorem e49 : ∀ (n : Nat), g49 (evalF E n) = R49 n
  | 0 => by funext a0 a1; rfl
  | n + 1 => by
    have l0 : lq49_0 (evalF E n) n n = (iter (F49_0 (R102 n) (R103 n) (R104 n) ) n) := iter_of (g := lq49_0 (evalF E n) n) rfl (fun m y => by rw [lp49_0]; simp only [e102 n, e103 n, e104 n]) n
    funext a0 a1
    rw [gq49, rr49]
    simp only [e102 n, e103 n, e104 n, l0]
    rfl
def R112 : Nat → LL_ → Option (Bool)
  | 0, _ => none
  | n + 1, a0 => r112  (iter (F112_0  ) n) a0
def J112_0 (n m : Nat) : (LL_ × Int × Int) → Option ((LL_ × Int × Int) ⊕ (Bool)) := iter (F112_0  ) m
theorem j112_0 (n m : Nat) (x : LL_ × Int × Int) : J112_0 n (m + 1) x = F112_0   (J112_0 n m) x := rfl
theorem u112 (n : Nat) (a0 : LL_) : R112 (n + 1) a0 = r112  (J112_0 n n) a0 := rfl
theorem e112 : ∀ (n : Nat), g112 (evalF E n) = R112 n
  | 0 => by funext a0; rfl
  | n + 1 => by
    have l0 : lq112_0 (evalF E n) n n = (iter (F112_0  ) n) := iter_of (g := lq112_0 (evalF E n) n) rfl (fun m y => by rw [lp112_0]) n
    funext a0
    rw [gq112, rr112]
    simp only [l0]
    rfl
def R62 : Nat → HK_ → Option (Bool)
  | 0, _ => none
  | n + 1, a0 => r62 (R112 n) (iter (F62_0 (R112 n) ) n) a0
def J62_0 (n m : Nat) : (Int × HK_ × Int × Int) → Option ((Int × HK_ × Int × Int) ⊕ (Bool)) := iter (F62_0 (R112 n) ) m
theorem j62_0 (n m : Nat) (x : Int × HK_ × Int × Int) : J62_0 n (m + 1) x = F62_0 (R112 n)  (J62_0 n m) x := rfl
theorem u62 (n : Nat) (a0 : HK_) : R62 (n + 1) a0 = r62 (R112 n) (J62_0 n n) a0 := rfl
theorem e62 : ∀ (n : Nat), g62 (evalF E n) = R62 n
  | 0 => by funext a0; rfl
  | n + 1 => by
    have l0 : lq62_0 (evalF E n) n n = (iter (F62_0 (R112 n) ) n) := iter_of (g := lq62_0 (evalF E n) n) rfl (fun m y => by rw [lp62_0]; simp only [e112 n]) n
    funext a0
    rw [gq62, rr62]
    simp only [e112 n, l0]
    rfl
def R63 : Nat → LL_ → LL_ → Option (LL_)
  | 0, _, _ => none
  | n + 1, a0, a1 => r63 (R102 n) (iter (F63_0 (R102 n) ) n) a0 a1
def J63_0 (n m : Nat) : (LL_ × Int × Int × LL_) → Option ((LL_ × Int × Int × LL_) ⊕ (LL_)) := iter (F63_0 (R102 n) ) m
theorem j63_0 (n m : Nat) (x : LL_ × Int × Int × LL_) : J63_0 n (m + 1) x = F63_0 (R102 n)  (J63_0 n m) x := rfl
theorem u63 (n : Nat) (a0 : LL_) (a1 : LL_) : R63 (n + 1) a0 a1 = r63 (R102 n) (J63_0 n n) a0 a1 := rfl
theorem e63 : ∀ (n : Nat), g63 (evalF E n) = R63 n
  | 0 => by funext a0 a1; rfl
  | n + 1 => by
    have l0 : lq63_0 (evalF E n) n n = (iter (F63_0 (R102 n) ) n) := iter_of (g := lq63_0 (evalF E n) n) rfl (fun m y => by rw [lp63_0]; simp only [e102 n]) n
    funext a0 a1
    rw [gq63, rr63]
    simp only [e102 n, l0]
    rfl
def R150 : Nat → LL_ → LL_ → Option (Bool)
  | 0, _, _ => none
  | n + 1, a0, a1 => r150 (R145 n) (iter (F150_0 (R145 n) ) n) a0 a1
def J150_0 (n m : Nat) : (LL_ × LL_ × Int × Int) → Option ((LL_ × LL_ × Int × Int) ⊕ (Bool)) := iter (F150_0 (R145 n) ) m
theorem j150_0 (n m : Nat) (x : LL_ × LL_ × Int × Int) : J150_0 n (m + 1) x = F150_0 (R145 n)  (J150_0 n m) x := rfl
theorem u150 (n : Nat) (a0 : LL_) (a1 : LL_) : R150 (n + 1) a0 a1 = r150 (R145 n) (J150_0 n n) a0 a1 := rfl
theorem e150 : ∀ (n : Nat), g150 (evalF E n) = R150 n
  | 0 => by funext a0 a1; rfl
  | n + 1 => by
    have l0 : lq150_0 (evalF E n) n n = (iter (F150_0 (R145 n) ) n) := iter_of (g := lq150_0 (evalF E n) n) rfl (fun m y => by rw [lp150_0]; simp only [e145 n]) n
    funext a0 a1
    rw [gq150, rr150]
    simp only [e145 n, l0]
    rfl
def R111 : Nat → LL_ → LL_ → Int → Option (Bool)
  | 0, _, _, _ => none
  | n + 1, a0, a1, a2 => r111 (R150 n)  a0 a1 a2
theorem u111 (n : Nat) (a0 : LL_) (a1 : LL_) (a2 : Int) : R111 (n + 1) a0 a1 a2 = r111 (R150 n)  a0 a1 a2 := rfl
theorem e111 : ∀ (n : Nat), g111 (evalF E n) = R111 n
  | 0 => by funext a0 a1 a2; rfl
  | n + 1 => by
    funext a0 a1 a2
    rw [gq111, rr111]
    simp only [e150 n]
    rfl
def R60 : Nat → HK_ → LL_ → Option (LL_ × Int)
  | 0, _, _ => none
  | n + 1, a0, a1 => r60 (R62 n) (R63 n) (R111 n) (iter (F60_0 (R62 n) (R63 n) (R111 n) ) n) a0 a1
def J60_0 (n m : Nat) : (LL_ × Int × HK_ × Int × Int × LL_) → Option ((LL_ × Int × HK_ × Int × Int × LL_) ⊕ (LL_ × Int)) := iter (F60_0 (R62 n) (R63 n) (R111 n) ) m
theorem j60_0 (n m : Nat) (x : LL_ × Int × HK_ × Int × Int × LL_) : J60_0 n (m + 1) x = F60_0 (R62 n) (R63 n) (R111 n)  (J60_0 n m) x := rfl
theorem u60 (n : Nat) (a0 : HK_) (a1 : LL_) : R60 (n + 1) a0 a1 = r60 (R62 n) (R63 n) (R111 n) (J60_0 n n) a0 a1 := rfl
theorem e60 : ∀ (n : Nat), g60 (evalF E n) = R60 n
  | 0 => by funext a0 a1; rfl
  | n + 1 => by
    have l0 : lq60_0 (evalF E n) n n = (iter (F60_0 (R62 n) (R63 n) (R111 n) ) n) := iter_of (g := lq60_0 (evalF E n) n) rfl (fun m y => by rw [lp60_0]; simp only [e62 n, e63 n, e111 n]) n
    funext a0 a1
    rw [gq60, rr60]
    simp only [e62 n, e63 n, e111 n, l0]
    rfl
def R61 : Nat → LL_ → Option (LI_)
  | 0, _ => none
  | n + 1, a0 => r61  (iter (F61_0  ) n) a0
def J61_0 (n m : Nat) : (LL_ × Int × Int × LI_) → Option ((LL_ × Int × Int × LI_) ⊕ (LI_)) := iter (F61_0  ) m
theorem j61_0 (n m : Nat) (x : LL_ × Int × Int × LI_) : J61_0 n (m + 1) x = F61_0   (J61_0 n m) x := rfl
theorem u61 (n : Nat) (a0 : LL_) : R61 (n + 1) a0 = r61  (J61_0 n n) a0 := rfl
theorem e61 : ∀ (n : Nat), g61 (evalF E n) = R61 n
  | 0 => by funext a0; rfl
  | n + 1 => by
    have l0 : lq61_0 (evalF E n) n n = (iter (F61_0  ) n) := iter_of (g := lq61_0 (evalF E n) n) rfl (fun m y => by rw [lp61_0]) n
    funext a0
    rw [gq61, rr61]
    simp only [l0]
    rfl
def R21 : Nat → Int → HK_ → LI_ → Option (LI_ × Int)
  | 0, _, _, _ => none
  | n + 1, a0, a1, a2 => r21 (R49 n) (R60 n) (R61 n)  a0 a1 a2
theorem u21 (n : Nat) (a0 : Int) (a1 : HK_) (a2 : LI_) : R21 (n + 1) a0 a1 a2 = r21 (R49 n) (R60 n) (R61 n)  a0 a1 a2 := rfl
theorem e21 : ∀ (n : Nat), g21 (evalF E n) = R21 n
  | 0 => by funext a0 a1 a2; rfl
  | n + 1 => by
    funext a0 a1 a2
    rw [gq21, rr21]
    simp only [e49 n, e60 n, e61 n]
    rfl
def R8 : Nat → LI_ → LI_ → Option (LI_ × Int × Int)
  | 0, _, _ => none
  | n + 1, a0, a1 => r8 (R20 n) (R21 n)  a0 a1
theorem u8 (n : Nat) (a0 : LI_) (a1 : LI_) : R8 (n + 1) a0 a1 = r8 (R20 n) (R21 n)  a0 a1 := rfl
theorem e8 : ∀ (n : Nat), g8 (evalF E n) = R8 n
  | 0 => by funext a0 a1; rfl
  | n + 1 => by
    funext a0 a1
    rw [gq8, rr8]
    simp only [e20 n, e21 n]
    rfl
def R22 : Nat → HK_ → Option (HK_ × Int)
  | 0, _ => none
  | n + 1, a0 => r22 (R62 n) (R63 n) (iter (F22_0 (R62 n) (R63 n) ) n) a0
def J22_0 (n m : Nat) : (Int × HK_ × Int × Int × HK_) → Option ((Int × HK_ × Int × Int × HK_) ⊕ (HK_ × Int)) := iter (F22_0 (R62 n) (R63 n) ) m
theorem j22_0 (n m : Nat) (x : Int × HK_ × Int × Int × HK_) : J22_0 n (m + 1) x = F22_0 (R62 n) (R63 n)  (J22_0 n m) x := rfl
theorem u22 (n : Nat) (a0 : HK_) : R22 (n + 1) a0 = r22 (R62 n) (R63 n) (J22_0 n n) a0 := rfl
theorem e22 : ∀ (n : Nat), g22 (evalF E n) = R22 n
  | 0 => by funext a0; rfl
  | n + 1 => by
    have l0 : lq22_0 (evalF E n) n n = (iter (F22_0 (R62 n) (R63 n) ) n) := iter_of (g := lq22_0 (evalF E n) n) rfl (fun m y => by rw [lp22_0]; simp only [e62 n, e63 n]) n
    funext a0
    rw [gq22, rr22]
    simp only [e62 n, e63 n, l0]
    rfl
def R9 : Nat → LI_ → LI_ → Option (LI_ × Int × Int)
  | 0, _, _ => none
  | n + 1, a0, a1 => r9 (R20 n) (R21 n) (R22 n)  a0 a1
theorem u9 (n : Nat) (a0 : LI_) (a1 : LI_) : R9 (n + 1) a0 a1 = r9 (R20 n) (R21 n) (R22 n)  a0 a1 := rfl
theorem e9 : ∀ (n : Nat), g9 (evalF E n) = R9 n
  | 0 => by funext a0 a1; rfl
  | n + 1 => by
    funext a0 a1
    rw [gq9, rr9]
    simp only [e20 n, e21 n, e22 n]
    rfl
noncomputable def R10 : Nat → Unit → Option (Bool) := fun n _ => evalF E n 10 ()
theorem e10 (n : Nat) : g10 (evalF E n) = R10 n := rfl
def R64 : Nat → Int → Option (ByteArray)
  | 0, _ => none
  | n + 1, a0 => r64   a0
theorem u64 (n : Nat) (a0 : Int) : R64 (n + 1) a0 = r64   a0 := rfl
theorem e64 : ∀ (n : Nat), g64 (evalF E n) = R64 n
  | 0 => by funext a0; rfl
  | n + 1 => by
    funext a0
    rw [gq64, rr64]
    rfl
def R65 : Nat → LI_ → Int → Int → Option (Bool)
  | 0, _, _, _ => none
  | n + 1, a0, a1, a2 => r65   a0 a1 a2
theorem u65 (n : Nat) (a0 : LI_) (a1 : Int) (a2 : Int) : R65 (n + 1) a0 a1 a2 = r65   a0 a1 a2 := rfl
theorem e65 : ∀ (n : Nat), g65 (evalF E n) = R65 n
  | 0 => by funext a0 a1 a2; rfl
  | n + 1 => by
    funext a0 a1 a2
    rw [gq65, rr65]
    rfl
def R113 : Nat → LI_ → Int → Int → Option (Int × Int)
  | 0, _, _, _ => none
  | n + 1, a0, a1, a2 => r113  (iter (F113_0  ) n) a0 a1 a2
def J113_0 (n m : Nat) : (LI_ × Int × Int × Int × Int) → Option ((LI_ × Int × Int × Int × Int) ⊕ (Int × Int)) := iter (F113_0  ) m
theorem j113_0 (n m : Nat) (x : LI_ × Int × Int × Int × Int) : J113_0 n (m + 1) x = F113_0   (J113_0 n m) x := rfl
theorem u113 (n : Nat) (a0 : LI_) (a1 : Int) (a2 : Int) : R113 (n + 1) a0 a1 a2 = r113  (J113_0 n n) a0 a1 a2 := rfl
theorem e113 : ∀ (n : Nat), g113 (evalF E n) = R113 n
  | 0 => by funext a0 a1 a2; rfl
  | n + 1 => by
    have l0 : lq113_0 (evalF E n) n n = (iter (F113_0  ) n) := iter_of (g := lq113_0 (evalF E n) n) rfl (fun m y => by rw [lp113_0]) n
    funext a0 a1 a2
    rw [gq113, rr113]
    simp only [l0]
    rfl
def R66 : Nat → LI_ → Int → Option (Int × Int × Int × Int)
  | 0, _, _ => none
  | n + 1, a0, a1 => r66 (R65 n) (R113 n)  a0 a1
theorem u66 (n : Nat) (a0 : LI_) (a1 : Int) : R66 (n + 1) a0 a1 = r66 (R65 n) (R113 n)  a0 a1 := rfl
theorem e66 : ∀ (n : Nat), g66 (evalF E n) = R66 n
  | 0 => by funext a0 a1; rfl
  | n + 1 => by
    funext a0 a1
    rw [gq66, rr66]
    simp only [e65 n, e113 n]
    rfl
def R114 : Nat → Int → LI_ → Option (Bool)
  | 0, _, _ => none
  | n + 1, a0, a1 => r114  (iter (F114_0  ) n) a0 a1
def J114_0 (n m : Nat) : (LI_ × Int) → Option ((LI_ × Int) ⊕ (Bool)) := iter (F114_0  ) m
theorem j114_0 (n m : Nat) (x : LI_ × Int) : J114_0 n (m + 1) x = F114_0   (J114_0 n m) x := rfl
theorem u114 (n : Nat) (a0 : Int) (a1 : LI_) : R114 (n + 1) a0 a1 = r114  (J114_0 n n) a0 a1 := rfl
theorem e114 : ∀ (n : Nat), g114 (evalF E n) = R114 n
  | 0 => by funext a0 a1; rfl
  | n + 1 => by
    have l0 : lq114_0 (evalF E n) n n = (iter (F114_0  ) n) := iter_of (g := lq114_0 (evalF E n) n) rfl (fun m y => by rw [lp114_0]) n
    funext a0 a1
    rw [gq114, rr114]
    simp only [l0]
    rfl
def R67 : Nat → Int → LI_ → Int → Option (LI_ × Int)
  | 0, _, _, _ => none
  | n + 1, a0, a1, a2 => r67 (R65 n) (R113 n) (R114 n)  a0 a1 a2
theorem u67 (n : Nat) (a0 : Int) (a1 : LI_) (a2 : Int) : R67 (n + 1) a0 a1 a2 = r67 (R65 n) (R113 n) (R114 n)  a0 a1 a2 := rfl
theorem e67 : ∀ (n : Nat), g67 (evalF E n) = R67 n
  | 0 => by funext a0 a1 a2; rfl
  | n + 1 => by
    funext a0 a1 a2
    rw [gq67, rr67]
    simp only [e65 n, e113 n, e114 n]
    rfl
def R24 : Nat → LI_ → Option (Int × HK_ × Int × Int)
  | 0, _ => none
  | n + 1, a0 => r24 (R64 n) (R65 n) (R66 n) (R67 n) (iter (F24_0 (R64 n) (R65 n) (R66 n) (R67 n) (iter (F24_2 (R64 n) (R65 n) (R66 n) (R67 n) ) n)) n) (iter (F24_1 (R64 n) (R65 n) (R66 n) (R67 n) ) n) (iter (F24_2 (R64 n) (R65 n) (R66 n) (R67 n) ) n) a0
def J24_2 (n m : Nat) : (LI_ × Int × Int × Int × Int × Int × HK_ × (Int × (LL_ × LL_))) → Option ((LI_ × Int × Int × Int × Int × Int × HK_ × (Int × (LL_ × LL_))) ⊕ (Int × HK_ × Int × Int)) := iter (F24_2 (R64 n) (R65 n) (R66 n) (R67 n) ) m
theorem j24_2 (n m : Nat) (x : LI_ × Int × Int × Int × Int × Int × HK_ × (Int × (LL_ × LL_))) : J24_2 n (m + 1) x = F24_2 (R64 n) (R65 n) (R66 n) (R67 n)  (J24_2 n m) x := rfl
def J24_0 (n m : Nat) : (LI_ × Int × Int × HK_) → Option ((LI_ × Int × Int × HK_) ⊕ (Int × HK_ × Int × Int)) := iter (F24_0 (R64 n) (R65 n) (R66 n) (R67 n) (J24_2 n n)) m
theorem j24_0 (n m : Nat) (x : LI_ × Int × Int × HK_) : J24_0 n (m + 1) x = F24_0 (R64 n) (R65 n) (R66 n) (R67 n) (J24_2 n n) (J24_0 n m) x := rfl
def J24_1 (n m : Nat) : (LI_ × Int × Int × Int) → Option ((LI_ × Int × Int × Int) ⊕ (Int × HK_ × Int × Int)) := iter (F24_1 (R64 n) (R65 n) (R66 n) (R67 n) ) m
theorem j24_1 (n m : Nat) (x : LI_ × Int × Int × Int) : J24_1 n (m + 1) x = F24_1 (R64 n) (R65 n) (R66 n) (R67 n)  (J24_1 n m) x := rfl
theorem u24 (n : Nat) (a0 : LI_) : R24 (n + 1) a0 = r24 (R64 n) (R65 n) (R66 n) (R67 n) (J24_0 n n) (J24_1 n n) (J24_2 n n) a0 := rfl
theorem e24 : ∀ (n : Nat), g24 (evalF E n) = R24 n
  | 0 => by funext a0; rfl
  | n + 1 => by
    have l2 : lq24_2 (evalF E n) n n = (iter (F24_2 (R64 n) (R65 n) (R66 n) (R67 n) ) n) := iter_of (g := lq24_2 (evalF E n) n) rfl (fun m y => by rw [lp24_2]; simp only [e64 n, e65 n, e66 n, e67 n]) n
    have l0 : lq24_0 (evalF E n) n n = (iter (F24_0 (R64 n) (R65 n) (R66 n) (R67 n) (iter (F24_2 (R64 n) (R65 n) (R66 n) (R67 n) ) n)) n) := iter_of (g := lq24_0 (evalF E n) n) rfl (fun m y => by rw [lp24_0]; simp only [e64 n, e65 n, e66 n, e67 n, l2]) n
    have l1 : lq24_1 (evalF E n) n n = (iter (F24_1 (R64 n) (R65 n) (R66 n) (R67 n) ) n) := iter_of (g := lq24_1 (evalF E n) n) rfl (fun m y => by rw [lp24_1]; simp only [e64 n, e65 n, e66 n, e67 n]) n
    funext a0
    rw [gq24, rr24]
    simp only [e64 n, e65 n, e66 n, e67 n, l0, l1, l2]
    rfl
def R68 : Nat → HK_ → Option (Bool)
  | 0, _ => none
  | n + 1, a0 => r68  (iter (F68_0  (iter (F68_1  ) n) (iter (F68_2  ) n)) n) (iter (F68_1  ) n) (iter (F68_2  ) n) a0
def J68_1 (n m : Nat) : (HK_ × Int × Int × (Int × (LL_ × LL_))) → Option ((HK_ × Int × Int × (Int × (LL_ × LL_))) ⊕ (Bool)) := iter (F68_1  ) m
theorem j68_1 (n m : Nat) (x : HK_ × Int × Int × (Int × (LL_ × LL_))) : J68_1 n (m + 1) x = F68_1   (J68_1 n m) x := rfl
def J68_2 (n m : Nat) : (HK_ × Int × Int × (Int × (LL_ × LL_))) → Option ((HK_ × Int × Int × (Int × (LL_ × LL_))) ⊕ (Bool)) := iter (F68_2  ) m
theorem j68_2 (n m : Nat) (x : HK_ × Int × Int × (Int × (LL_ × LL_))) : J68_2 n (m + 1) x = F68_2   (J68_2 n m) x := rfl
def J68_0 (n m : Nat) : (HK_ × Int) → Option ((HK_ × Int) ⊕ (Bool)) := iter (F68_0  (J68_1 n n) (J68_2 n n)) m
theorem j68_0 (n m : Nat) (x : HK_ × Int) : J68_0 n (m + 1) x = F68_0  (J68_1 n n) (J68_2 n n) (J68_0 n m) x := rfl
theorem u68 (n : Nat) (a0 : HK_) : R68 (n + 1) a0 = r68  (J68_0 n n) (J68_1 n n) (J68_2 n n) a0 := rfl
theorem e68 : ∀ (n : Nat), g68 (evalF E n) = R68 n
  | 0 => by funext a0; rfl
  | n + 1 => by
    have l1 : lq68_1 (evalF E n) n n = (iter (F68_1  ) n) := iter_of (g := lq68_1 (evalF E n) n) rfl (fun m y => by rw [lp68_1]) n
    have l2 : lq68_2 (evalF E n) n n = (iter (F68_2  ) n) := iter_of (g := lq68_2 (evalF E n) n) rfl (fun m y => by rw [lp68_2]) n
    have l0 : lq68_0 (evalF E n) n n = (iter (F68_0  (iter (F68_1  ) n) (iter (F68_2  ) n)) n) := iter_of (g := lq68_0 (evalF E n) n) rfl (fun m y => by rw [lp68_0]; simp only [l1, l2]) n
    funext a0
    rw [gq68, rr68]
    simp only [l0, l1, l2]
    rfl
def R25 : Nat → HK_ → LL_ → Option (LL_ × Int)
  | 0, _, _ => none
  | n + 1, a0, a1 => r25 (R68 n) (iter (F25_0 (R68 n) ) n) (iter (F25_1 (R68 n) (iter (F25_0 (R68 n) ) n)) n) a0 a1
def J25_0 (n m : Nat) : (HK_ × LL_ × Int × Int × Int × LL_ × (Int × (LL_ × LL_))) → Option ((HK_ × LL_ × Int × Int × Int × LL_ × (Int × (LL_ × LL_))) ⊕ (LL_ × Int)) := iter (F25_0 (R68 n) ) m
theorem j25_0 (n m : Nat) (x : HK_ × LL_ × Int × Int × Int × LL_ × (Int × (LL_ × LL_))) : J25_0 n (m + 1) x = F25_0 (R68 n)  (J25_0 n m) x := rfl
def J25_1 (n m : Nat) : (HK_ × LL_ × Int × Int × LL_) → Option ((HK_ × LL_ × Int × Int × LL_) ⊕ (LL_ × Int)) := iter (F25_1 (R68 n) (J25_0 n n)) m
theorem j25_1 (n m : Nat) (x : HK_ × LL_ × Int × Int × LL_) : J25_1 n (m + 1) x = F25_1 (R68 n) (J25_0 n n) (J25_1 n m) x := rfl
theorem u25 (n : Nat) (a0 : HK_) (a1 : LL_) : R25 (n + 1) a0 a1 = r25 (R68 n) (J25_0 n n) (J25_1 n n) a0 a1 := rfl
theorem e25 : ∀ (n : Nat), g25 (evalF E n) = R25 n
  | 0 => by funext a0 a1; rfl
  | n + 1 => by
    have l0 : lq25_0 (evalF E n) n n = (iter (F25_0 (R68 n) ) n) := iter_of (g := lq25_0 (evalF E n) n) rfl (fun m y => by rw [lp25_0]; simp only [e68 n]) n
    have l1 : lq25_1 (evalF E n) n n = (iter (F25_1 (R68 n) (iter (F25_0 (R68 n) ) n)) n) := iter_of (g := lq25_1 (evalF E n) n) rfl (fun m y => by rw [lp25_1]; simp only [e68 n, l0]) n
    funext a0 a1
    rw [gq25, rr25]
    simp only [e68 n, l0, l1]
    rfl
def R69 : Nat → Int → LI_ → Option (LL_ × Int)
  | 0, _, _ => none
  | n + 1, a0, a1 => r69  (iter (F69_0  ) n) a0 a1
def J69_0 (n m : Nat) : (Int × LI_ × Int × Int × LL_) → Option ((Int × LI_ × Int × Int × LL_) ⊕ (LL_ × Int)) := iter (F69_0  ) m
theorem j69_0 (n m : Nat) (x : Int × LI_ × Int × Int × LL_) : J69_0 n (m + 1) x = F69_0   (J69_0 n m) x := rfl
theorem u69 (n : Nat) (a0 : Int) (a1 : LI_) : R69 (n + 1) a0 a1 = r69  (J69_0 n n) a0 a1 := rfl
theorem e69 : ∀ (n : Nat), g69 (evalF E n) = R69 n
  | 0 => by funext a0 a1; rfl
  | n + 1 => by
    have l0 : lq69_0 (evalF E n) n n = (iter (F69_0  ) n) := iter_of (g := lq69_0 (evalF E n) n) rfl (fun m y => by rw [lp69_0]) n
    funext a0 a1
    rw [gq69, rr69]
    simp only [l0]
    rfl
def R26 : Nat → Int → LI_ → Option (LL_)
  | 0, _, _ => none
  | n + 1, a0, a1 => r26 (R69 n)  a0 a1
theorem u26 (n : Nat) (a0 : Int) (a1 : LI_) : R26 (n + 1) a0 a1 = r26 (R69 n)  a0 a1 := rfl
theorem e26 : ∀ (n : Nat), g26 (evalF E n) = R26 n
  | 0 => by funext a0 a1; rfl
  | n + 1 => by
    funext a0 a1
    rw [gq26, rr26]
    simp only [e69 n]
    rfl
def R27 : Nat → LL_ → Option (LI_)
  | 0, _ => none
  | n + 1, a0 => r27  (iter (F27_0  ) n) a0
def J27_0 (n m : Nat) : (LL_ × Int × LI_) → Option ((LL_ × Int × LI_) ⊕ (LI_)) := iter (F27_0  ) m
theorem j27_0 (n m : Nat) (x : LL_ × Int × LI_) : J27_0 n (m + 1) x = F27_0   (J27_0 n m) x := rfl
theorem u27 (n : Nat) (a0 : LL_) : R27 (n + 1) a0 = r27  (J27_0 n n) a0 := rfl
theorem e27 : ∀ (n : Nat), g27 (evalF E n) = R27 n
  | 0 => by funext a0; rfl
  | n + 1 => by
    have l0 : lq27_0 (evalF E n) n n = (iter (F27_0  ) n) := iter_of (g := lq27_0 (evalF E n) n) rfl (fun m y => by rw [lp27_0]) n
    funext a0
    rw [gq27, rr27]
    simp only [l0]
    rfl
def R11 : Nat → LI_ → LI_ → Option (LI_ × Int × Int)
  | 0, _, _ => none
  | n + 1, a0, a1 => r11 (R24 n) (R25 n) (R26 n) (R27 n)  a0 a1
theorem u11 (n : Nat) (a0 : LI_) (a1 : LI_) : R11 (n + 1) a0 a1 = r11 (R24 n) (R25 n) (R26 n) (R27 n)  a0 a1 := rfl
theorem e11 : ∀ (n : Nat), g11 (evalF E n) = R11 n
  | 0 => by funext a0 a1; rfl
  | n + 1 => by
    funext a0 a1
    rw [gq11, rr11]
    simp only [e24 n, e25 n, e26 n, e27 n]
    rfl
def R28 : Nat → HK_ → Option (HK_ × Int)
  | 0, _ => none
  | n + 1, a0 => r28 (R68 n) (iter (F28_0 (R68 n) ) n) a0
def J28_0 (n m : Nat) : (HK_ × Int × Int × HK_) → Option ((HK_ × Int × Int × HK_) ⊕ (HK_ × Int)) := iter (F28_0 (R68 n) ) m
theorem j28_0 (n m : Nat) (x : HK_ × Int × Int × HK_) : J28_0 n (m + 1) x = F28_0 (R68 n)  (J28_0 n m) x := rfl
theorem u28 (n : Nat) (a0 : HK_) : R28 (n + 1) a0 = r28 (R68 n) (J28_0 n n) a0 := rfl
theorem e28 : ∀ (n : Nat), g28 (evalF E n) = R28 n
  | 0 => by funext a0; rfl
  | n + 1 => by
    have l0 : lq28_0 (evalF E n) n n = (iter (F28_0 (R68 n) ) n) := iter_of (g := lq28_0 (evalF E n) n) rfl (fun m y => by rw [lp28_0]; simp only [e68 n]) n
    funext a0
    rw [gq28, rr28]
    simp only [e68 n, l0]
    rfl
def R12 : Nat → LI_ → LI_ → Option (LI_ × Int × Int)
  | 0, _, _ => none
  | n + 1, a0, a1 => r12 (R24 n) (R25 n) (R26 n) (R27 n) (R28 n)  a0 a1
theorem u12 (n : Nat) (a0 : LI_) (a1 : LI_) : R12 (n + 1) a0 a1 = r12 (R24 n) (R25 n) (R26 n) (R27 n) (R28 n)  a0 a1 := rfl
theorem e12 : ∀ (n : Nat), g12 (evalF E n) = R12 n
  | 0 => by funext a0 a1; rfl
  | n + 1 => by
    funext a0 a1
    rw [gq12, rr12]
    simp only [e24 n, e25 n, e26 n, e27 n, e28 n]
    rfl
noncomputable def R4 : Nat → LI_ → LI_ → Option (Bool)
  | 0, _, _ => none
  | n + 1, a0, a1 => r4 (R8 n) (R9 n) (R10 n) (R11 n) (R12 n)  a0 a1
theorem u4 (n : Nat) (a0 : LI_) (a1 : LI_) : R4 (n + 1) a0 a1 = r4 (R8 n) (R9 n) (R10 n) (R11 n) (R12 n)  a0 a1 := rfl
theorem e4 : ∀ (n : Nat), g4 (evalF E n) = R4 n
  | 0 => by funext a0 a1; rfl
  | n + 1 => by
    funext a0 a1
    rw [gq4, rr4]
    simp only [e8 n, e9 n, e10 n, e11 n, e12 n]
    rfl
theorem law_R (n : Nat) (a0 : LI_) (a1 : LI_) : runHow E (evalF E n) n s4 (a0, a1) h4 = R4 (n + 1) a0 a1 := (gq4 n a0 a1).symm.trans (congrFun (congrFun (e4 (n + 1)) a0) a1)
theorem okAll : EntriesOK Tryz.prog NoX 0 E.fns := ⟨trivial,
  trivial,
  trivial,
  trivial,
  ok4 NoX,
  ok5 NoX,
  ok6 NoX,
  ok7 NoX,
  ok8 NoX,
  ok9 NoX,
  ok10 NoX,
  ok11 NoX,
  ok12 NoX,
  ok13 NoX,
  ok14 NoX,
  ok15 NoX,
  ok16 NoX,
  ok17 NoX,
  ok18 NoX,
  ok19 NoX,
  ok20 NoX,
  ok21 NoX,
  ok22 NoX,
  ok23 NoX,
  ok24 NoX,
  ok25 NoX,
  ok26 NoX,
  ok27 NoX,
  ok28 NoX,
  ok29 NoX,
  fun _ _ _ h => PortX.Of_spec NoX_ok h,
  ok31 NoX,
  ok32 NoX,
  ok33 NoX,
  trivial,
  trivial,
  trivial,
  trivial,
  trivial,
  trivial,
  trivial,
  trivial,
  ok42 NoX,
  ok43 NoX,
  ok44 NoX,
  ok45 NoX,
  ok46 NoX,
  ok47 NoX,
  ok48 NoX,
  ok49 NoX,
  ok50 NoX,
  ok51 NoX,
  ok52 NoX,
  fun _ _ _ h => PortX.next_spec NoX_ok h,
  ok54 NoX,
  ok55 NoX,
  ok56 NoX,
  ok57 NoX,
  ok58 NoX,
  ok59 NoX,
  ok60 NoX,
  ok61 NoX,
  ok62 NoX,
  ok63 NoX,
  ok64 NoX,
  ok65 NoX,
  ok66 NoX,
  ok67 NoX,
  ok68 NoX,
  ok69 NoX,
  ok70 NoX,
  ok71 NoX,
  ok72 NoX,
  fun _ _ _ h => PortX.Behind_spec NoX_ok h,
  trivial,
  trivial,
  trivial,
  trivial,
  trivial,
  trivial,
  trivial,
  trivial,
  trivial,
  trivial,
  trivial,
  trivial,
  trivial,
  trivial,
  trivial,
  trivial,
  trivial,
  trivial,
  trivial,
  trivial,
  trivial,
  trivial,
  trivial,
  ok97 NoX,
  ok98 NoX,
  ok99 NoX,
  ok100 NoX,
  ok101 NoX,
  fun _ _ _ h => NameX.Clone_spec h,
  ok103 NoX,
  ok104 NoX,
  fun _ _ _ h => PortX.CloneI_spec NoX_ok h,
  ok106 NoX,
  ok107 NoX,
  ok108 NoX,
  ok109 NoX,
  ok110 NoX,
  ok111 NoX,
  ok112 NoX,
  ok113 NoX,
  ok114 NoX,
  ok115 NoX,
  fun _ _ _ h => PortX.Count_spec h,
  ok117 NoX,
  ok118 NoX,
  ok119 NoX,
  ok120 NoX,
  trivial,
  trivial,
  trivial,
  trivial,
  trivial,
  trivial,
  trivial,
  trivial,
  trivial,
  trivial,
  trivial,
  trivial,
  trivial,
  trivial,
  trivial,
  trivial,
  trivial,
  trivial,
  trivial,
  trivial,
  fun _ _ _ h => NameX.CloneR_spec h,
  fun _ _ _ h => NameX.SortR_spec h,
  ok143 NoX,
  fun _ _ _ h => NameX.CompactR_spec h,
  ok145 NoX,
  fun _ _ _ h => NameX.GrowR_spec h,
  ok147 NoX,
  fun _ _ _ h => PortX.IndexByte_spec h,
  ok149 NoX,
  ok150 NoX,
  ok151 NoX,
  trivial,
  ok153 NoX,
  ok154 NoX,
  ok155 NoX,
  ok156 NoX,
  trivial,
  trivial,
  trivial,
  trivial,
  trivial,
  trivial,
  trivial,
  trivial,
  trivial,
  trivial,
  trivial,
  trivial,
  trivial,
  trivial,
  trivial,
  trivial,
  trivial,
  trivial,
  fun _ _ _ h => NameX.Compare_spec h,
  ok176 NoX,
  ok177 NoX,
  ok178 NoX,
  ok179 NoX,
  ok180 NoX, trivial⟩
theorem mixed : Tryz.prog.follows .mixedOrders = true := by kernel_rfl
theorem calls (n : Nat) : CallOK Tryz.prog NoX E (evalF E n) := evalF_sound NoX_ok tys mixed (entries_fn okAll) n
end Go.Proofs.YtjidbphhcekelaaGreat.EPortScripts
