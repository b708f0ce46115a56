import Derived.Test.YtgelkklendpeoaaGreatProg
import Derived.Test.YtgelkklendpeoaaGreatAeB
import Derived.Test.YtgelkklendpeoaaGreatGridX
import Derived.Test.YtgelkklendpeoaaGreatNameC
import Derived.Test.YtgelkklendpeoaaGreatNameR
import Derived.Test.YtgelkklendpeoaaGreatNameX
import Derived.Test.YtgelkklendpeoaaGreatPortX
namespace Go.Proofs.YtgelkklendpeoaaGreat.EPortNear
open Go Go.Proofs.YtgelkklendpeoaaGreat.AE
set_option maxRecDepth 100000
set_option linter.unusedVariables false
abbrev LI_ : Type := List Int
abbrev LL_ : Type := List (List Int)
abbrev HK_ : Type := List (Int × (List (List Int) × List (List Int)))
abbrev TH_ : Ty := (.slice (.pair (.int .i64) (.pair (.slice (.slice (.int .u8))) (.one (.slice (.slice (.int .u8)))))))
abbrev TK_ : Ty := (.pair (.int .i64) (.pair (.slice (.slice (.int .u8))) (.one (.slice (.slice (.int .u8))))))
abbrev TT_ : Ty := (.slice (.slice (.int .u8)))
abbrev TB_ : Ty := (.slice (.int .u8))
abbrev TI_ : Ty := (.slice (.int .i64))
noncomputable def cd (f : Func) : Code := match f.body with | some c => c | none => .skip
noncomputable def c3 : Code := cd Tryz.f3
def s3 : Sig := ⟨⟨[.dat (.int .i64), .dat TB_, .dat TB_, .dat (.int .i64)], []⟩, ⟨[.dat .bool], []⟩⟩
def hs3 : List (List Nat × LH) := []
noncomputable def h3 : How s3 := .code Tryz.f3 c3 hs3
noncomputable def c4 : Code := cd Tryz.f4
def s4 : Sig := ⟨⟨[], []⟩, ⟨[.dat .bool], []⟩⟩
def hs4 : List (List Nat × LH) := []
noncomputable def h4 : How s4 := .code Tryz.f4 c4 hs4
noncomputable def c5 : Code := cd Tryz.f5
def s5 : Sig := ⟨⟨[.dat (.int .i64), .dat TB_, .dat TB_, .dat (.int .i64)], []⟩, ⟨[.dat (.int .i64), .dat (.int .i64)], []⟩⟩
def hs5 : List (List Nat × LH) := []
noncomputable def h5 : How s5 := .code Tryz.f5 c5 hs5
noncomputable def c6 : Code := cd Tryz.f6
def s6 : Sig := ⟨⟨[.dat (.int .i64), .dat TB_, .dat TB_, .dat (.int .i64)], []⟩, ⟨[.dat (.int .i64), .dat (.int .i64)], []⟩⟩
def hs6 : List (List Nat × LH) := []
noncomputable def h6 : How s6 := .code Tryz.f6 c6 hs6
noncomputable def c7 : Code := cd Tryz.f7
def s7 : Sig := ⟨⟨[.dat (.int .i64), .dat (.int .i64), .dat TB_, .dat TB_, .dat (.pair (.int .i64) (.one (.int .i64)))], []⟩, ⟨[.dat (.pair (.int .i64) (.pair (.int .i64) (.pair (.int .i64) (.pair (.int .i64) (.pair (.slice (.pair (.int .i64) (.one (.int .i64)))) (.one TH_)))))), .dat (.int .i64)], []⟩⟩
def hs7 : List (List Nat × LH) := []
noncomputable def h7 : How s7 := .code Tryz.f7 c7 hs7
noncomputable def c8 : Code := cd Tryz.f8
def s8 : Sig := ⟨⟨[], []⟩, ⟨[.dat (.pair (.int .i64) (.one (.int .i64)))], []⟩⟩
def hs8 : List (List Nat × LH) := []
noncomputable def h8 : How s8 := .code Tryz.f8 c8 hs8
noncomputable def c9 : Code := cd Tryz.f9
def s9 : Sig := ⟨⟨[.dat (.int .i64), .dat (.int .i64), .dat TB_, .dat TB_, .dat (.pair (.int .i64) (.one (.int .i64)))], []⟩, ⟨[.dat (.int .i64), .dat (.int .i64), .dat (.int .i64)], []⟩⟩
def hs9 : List (List Nat × LH) := []
noncomputable def h9 : How s9 := .code Tryz.f9 c9 hs9
noncomputable def c10 : Code := cd Tryz.f10
def s10 : Sig := ⟨⟨[.dat (.int .i64), .dat TB_, .dat TB_], []⟩, ⟨[.dat (.pair TT_ (.pair TT_ (.pair TI_ (.pair TI_ (.pair (.int .i64) (.pair (.int .i64) (.pair TI_ (.one TI_)))))))), .dat (.int .i64)], []⟩⟩
def hs10 : List (List Nat × LH) := []
noncomputable def h10 : How s10 := .code Tryz.f10 c10 hs10
noncomputable def c11 : Code := cd Tryz.f11
def s11 : Sig := ⟨⟨[.dat TI_, .dat TI_, .dat (.int .i64)], []⟩, ⟨[.dat (.int .i64), .dat (.int .i64), .dat (.int .i64)], []⟩⟩
def hs11 : List (List Nat × LH) := [([0, 1, 0, 1, 1, 1, 1, 1], ⟨[0, 1, 2, 9, 10, 12, 31, 32], ⟨[.dat TI_, .dat TI_, .dat (.int .i64), .dat (.int .i64), .dat (.int .i64), .ptr 0 0, .dat (.int .i64), .dat (.int .i64)], [.var (.pair (.int .i64) (.one TI_))]⟩, 0⟩)]
noncomputable def h11 : How s11 := .code Tryz.f11 c11 hs11
noncomputable def c12 : Code := cd Tryz.f12
def s12 : Sig := ⟨⟨[.dat (.int .i64)], []⟩, ⟨[.dat .str], []⟩⟩
def hs12 : List (List Nat × LH) := []
noncomputable def h12 : How s12 := .code Tryz.f12 c12 hs12
noncomputable def c13 : Code := cd Tryz.f13
def s13 : Sig := ⟨⟨[.dat TI_, .dat TI_], []⟩, ⟨[.dat (.int .i64)], []⟩⟩
def hs13 : List (List Nat × LH) := []
noncomputable def h13 : How s13 := .code Tryz.f13 c13 hs13
noncomputable def c14 : Code := cd Tryz.f14
def s14 : Sig := ⟨⟨[.dat (.int .i64), .dat TB_, .dat TB_], []⟩, ⟨[.dat TI_, .dat TI_], []⟩⟩
def hs14 : List (List Nat × LH) := []
noncomputable def h14 : How s14 := .code Tryz.f14 c14 hs14
noncomputable def c15 : Code := cd Tryz.f15
def s15 : Sig := ⟨⟨[.dat (.int .i64), .dat (.int .i64), .dat TB_, .dat TB_, .dat (.pair (.int .i64) (.one (.int .i64)))], []⟩, ⟨[.dat (.pair TT_ (.pair TT_ (.pair TI_ (.pair TI_ (.pair (.int .i64) (.pair (.int .i64) (.pair TI_ (.one TI_)))))))), .dat (.int .i64), .dat (.int .i64)], []⟩⟩
def hs15 : List (List Nat × LH) := []
noncomputable def h15 : How s15 := .code Tryz.f15 c15 hs15
noncomputable def c16 : Code := cd Tryz.f16
def s16 : Sig := ⟨⟨[.dat (.int .i64), .dat TI_, .dat TI_], []⟩, ⟨[.dat (.slice (.pair (.int .i64) (.one (.int .i64)))), .dat (.int .i64)], []⟩⟩
def hs16 : List (List Nat × LH) := []
noncomputable def h16 : How s16 := .code Tryz.f16 c16 hs16
noncomputable def c17 : Code := cd Tryz.f17
def s17 : Sig := ⟨⟨[.dat (.slice (.pair (.int .i64) (.one (.int .i64)))), .dat (.int .i64), .dat (.int .i64), .dat (.int .i64), .dat (.int .i64)], []⟩, ⟨[.dat (.slice (.pair (.int .i64) (.one (.int .i64)))), .dat (.int .i64)], []⟩⟩
def hs17 : List (List Nat × LH) := [([0, 1, 0, 1, 1, 1], ⟨[0, 1, 2, 3, 4, 12, 49, 50], ⟨[.dat (.slice (.pair (.int .i64) (.one (.int .i64)))), .dat (.int .i64), .dat (.int .i64), .dat (.int .i64), .dat (.int .i64), .ref 0, .dat (.int .i64), .dat (.int .i64)], [.row (.pair (.int .i64) (.one (.int .i64)))]⟩, 0⟩), ([0, 1, 0, 1, 1, 1, 1], ⟨[1, 2, 3, 4, 12, 60, 61, 62], ⟨[.dat (.int .i64), .dat (.int .i64), .dat (.int .i64), .dat (.int .i64), .ref 0, .dat (.slice (.pair (.int .i64) (.one (.int .i64)))), .dat (.int .i64), .dat (.int .i64)], [.row (.pair (.int .i64) (.one (.int .i64)))]⟩, 2⟩), ([0, 1, 0, 1, 1, 1, 1, 1], ⟨[3, 4, 12, 16], ⟨[.dat (.int .i64), .dat (.int .i64), .ref 0, .dat (.int .i64)], [.row (.pair (.int .i64) (.one (.int .i64)))]⟩, 4⟩)]
noncomputable def h17 : How s17 := .code Tryz.f17 c17 hs17
noncomputable def c18 : Code := cd Tryz.f18
def s18 : Sig := ⟨⟨[.dat TI_, .dat TI_, .dat (.slice (.pair (.int .i64) (.one (.int .i64))))], []⟩, ⟨[.dat (.slice (.pair (.int .i64) (.one (.int .i64)))), .dat (.int .i64)], []⟩⟩
def hs18 : List (List Nat × LH) := []
noncomputable def h18 : How s18 := .code Tryz.f18 c18 hs18
noncomputable def c19 : Code := cd Tryz.f19
def s19 : Sig := ⟨⟨[.dat TT_, .dat TT_, .dat (.slice (.pair (.int .i64) (.one (.int .i64))))], []⟩, ⟨[.dat TH_, .dat (.int .i64)], []⟩⟩
def hs19 : List (List Nat × LH) := [([0, 1, 0, 1, 1, 1, 1, 1, 1], ⟨[3, 4, 11, 14, 30, 31, 32], ⟨[.ptr 0 0, .ptr 1 0, .ptr 2 0, .fnc 48 [3, 4, 2, 0, 1], .dat (.slice (.pair (.int .i64) (.one (.int .i64)))), .dat (.int .i64), .dat (.int .i64)], [.var TT_, .var TT_, .vrow TK_, .var (.int .i64), .var (.int .i64)]⟩, 0⟩)]
noncomputable def h19 : How s19 := .code Tryz.f19 c19 hs19
noncomputable def c20 : Code := cd Tryz.f20
def s20 : Sig := ⟨⟨[.dat (.int .i64), .dat TB_], []⟩, ⟨[.dat TT_, .dat (.int .i64)], []⟩⟩
def hs20 : List (List Nat × LH) := [([0, 0, 1, 1, 1], ⟨[0, 1, 6], ⟨[.dat (.int .i64), .dat TB_, .ref 0], [.row TB_]⟩, 0⟩)]
noncomputable def h20 : How s20 := .code Tryz.f20 c20 hs20
noncomputable def c21 : Code := cd Tryz.f21
def s21 : Sig := ⟨⟨[.dat TT_, .dat TT_], []⟩, ⟨[.dat TI_, .dat TI_, .dat (.int .i64)], []⟩⟩
def hs21 : List (List Nat × LH) := []
noncomputable def h21 : How s21 := .code Tryz.f21 c21 hs21
noncomputable def c22 : Code := cd Tryz.f22
def s22 : Sig := ⟨⟨[.dat TI_, .dat TI_], []⟩, ⟨[.dat (.int .i64), .dat (.int .i64)], []⟩⟩
def hs22 : List (List Nat × LH) := [([0, 0, 1], ⟨[0, 1, 4, 5], ⟨[.dat TI_, .dat TI_, .dat (.int .i64), .dat (.int .i64)], []⟩, 0⟩), ([0, 0, 1, 1, 1], ⟨[0, 1, 4, 5], ⟨[.dat TI_, .dat TI_, .dat (.int .i64), .dat (.int .i64)], []⟩, 2⟩)]
noncomputable def h22 : How s22 := .code Tryz.f22 c22 hs22
noncomputable def c23 : Code := cd Tryz.f23
def s23 : Sig := ⟨⟨[.dat TI_, .dat TI_], []⟩, ⟨[.dat TI_, .dat TI_], []⟩⟩
def hs23 : List (List Nat × LH) := []
noncomputable def h23 : How s23 := .code Tryz.f23 c23 hs23
noncomputable def c24 : Code := cd Tryz.f24
def s24 : Sig := ⟨⟨[.dat (.int .i64), .dat (.int .i64), .dat (.int .i64)], []⟩, ⟨[.dat (.int .i64), .dat (.int .i64), .dat .bool], []⟩⟩
def hs24 : List (List Nat × LH) := []
noncomputable def h24 : How s24 := .code Tryz.f24 c24 hs24
noncomputable def c26 : Code := cd Tryz.f26
def s26 : Sig := ⟨⟨[.dat (.pair (.int .i64) (.one TI_)), .dat (.int .i64)], []⟩, ⟨[.dat (.int .i64)], []⟩⟩
def hs26 : List (List Nat × LH) := []
noncomputable def h26 : How s26 := .code Tryz.f26 c26 hs26
noncomputable def c27 : Code := cd Tryz.f27
def s27 : Sig := ⟨⟨[.dat (.int .i64), .dat (.int .i64), .dat (.int .i64)], []⟩, ⟨[.dat (.int .i64)], []⟩⟩
def hs27 : List (List Nat × LH) := [([0, 1, 0, 1, 1, 1, 1, 1], ⟨[0, 1, 8, 10, 11], ⟨[.dat (.int .i64), .dat (.int .i64), .dat (.int .i64), .dat (.int .i64), .dat (.int .i64)], []⟩, 0⟩)]
noncomputable def h27 : How s27 := .code Tryz.f27 c27 hs27
noncomputable def c28 : Code := cd Tryz.f28
def s28 : Sig := ⟨⟨[.dat TI_, .dat TI_], []⟩, ⟨[.dat (.int .i64)], []⟩⟩
def hs28 : List (List Nat × LH) := []
noncomputable def h28 : How s28 := .code Tryz.f28 c28 hs28
noncomputable def c29 : Code := cd Tryz.f29
def s29 : Sig := ⟨⟨[.dat TT_, .dat TT_], []⟩, ⟨[.dat TI_, .dat TI_, .dat (.int .i64)], []⟩⟩
def hs29 : List (List Nat × LH) := []
noncomputable def h29 : How s29 := .code Tryz.f29 c29 hs29
noncomputable def c30 : Code := cd Tryz.f30
def s30 : Sig := ⟨⟨[.dat (.int .i64), .dat TB_], []⟩, ⟨[.dat TT_], []⟩⟩
def hs30 : List (List Nat × LH) := []
noncomputable def h30 : How s30 := .code Tryz.f30 c30 hs30
noncomputable def c31 : Code := cd Tryz.f31
def s31 : Sig := ⟨⟨[.dat (.int .i64), .dat TB_], []⟩, ⟨[.dat (.int .i64), .dat (.int .i64)], []⟩⟩
def hs31 : List (List Nat × LH) := []
noncomputable def h31 : How s31 := .code Tryz.f31 c31 hs31
noncomputable def c33 : Code := cd Tryz.f33
def s33 : Sig := ⟨⟨[.dat (.pair (.int .i64) (.pair (.int .i64) (.pair (.int .i64) (.one (.int .i64)))))], []⟩, ⟨[.dat (.int .i64)], []⟩⟩
def hs33 : List (List Nat × LH) := [([0, 1, 0, 1, 1], ⟨[1, 3, 4, 5], ⟨[.ptr 0 0, .dat (.int .i64), .dat (.int .i64), .dat (.int .i64)], [.var (.pair (.int .i64) (.pair (.int .i64) (.pair (.int .i64) (.one (.int .i64)))))]⟩, 0⟩)]
noncomputable def h33 : How s33 := .code Tryz.f33 c33 hs33
noncomputable def c34 : Code := cd Tryz.f34
def s34 : Sig := ⟨⟨[.dat (.int .i64), .dat (.pair (.int .i64) (.pair (.int .i64) (.pair (.int .i64) (.one (.int .i64))))), .dat (.int .i64)], []⟩, ⟨[.dat (.int .i64)], []⟩⟩
def hs34 : List (List Nat × LH) := []
noncomputable def h34 : How s34 := .code Tryz.f34 c34 hs34
noncomputable def c35 : Code := cd Tryz.f35
def s35 : Sig := ⟨⟨[.dat TI_, .dat TI_], []⟩, ⟨[.dat (.slice (.pair (.int .i64) (.one (.int .i64)))), .dat (.int .i64)], []⟩⟩
def hs35 : List (List Nat × LH) := [([0, 1, 0, 1, 1, 1], ⟨[0, 1, 6, 7, 8, 9], ⟨[.dat TI_, .dat TI_, .dat (.slice TI_), .ref 0, .dat (.int .i64), .dat (.int .i64)], [.row (.pair (.int .i64) (.one (.int .i64)))]⟩, 0⟩)]
noncomputable def h35 : How s35 := .code Tryz.f35 c35 hs35
noncomputable def c44 : Code := cd Tryz.f44
def s44 : Sig := ⟨⟨[.dat (.int .i64)], []⟩, ⟨[.dat .bool], []⟩⟩
def hs44 : List (List Nat × LH) := []
noncomputable def h44 : How s44 := .code Tryz.f44 c44 hs44
noncomputable def c45 : Code := cd Tryz.f45
def s45 : Sig := ⟨⟨[.dat TI_, .dat TI_, .dat (.slice (.pair (.int .i64) (.one (.int .i64))))], []⟩, ⟨[.dat .bool], []⟩⟩
def hs45 : List (List Nat × LH) := [([0, 1, 0, 1, 1], ⟨[0, 1, 7, 11, 12, 13], ⟨[.dat TI_, .dat TI_, .ptr 0 0, .dat (.slice (.pair (.int .i64) (.one (.int .i64)))), .dat (.int .i64), .dat (.int .i64)], [.var (.pair (.int .i64) (.one (.int .i64)))]⟩, 0⟩)]
noncomputable def h45 : How s45 := .code Tryz.f45 c45 hs45
noncomputable def c46 : Code := cd Tryz.f46
def s46 : Sig := ⟨⟨[.dat TI_, .dat TI_], []⟩, ⟨[.dat (.int .i64)], []⟩⟩
def hs46 : List (List Nat × LH) := [([0, 1, 0, 1, 1], ⟨[0, 1, 5, 6], ⟨[.dat TI_, .dat TI_, .ref 0, .dat (.int .i64)], [.row (.int .i64)]⟩, 0⟩), ([0, 1, 1, 0, 0, 1, 0, 0, 1, 0, 1, 1], ⟨[0, 1, 5, 6, 7, 8], ⟨[.dat TI_, .dat TI_, .ref 0, .dat (.int .i64), .dat (.int .i64), .dat (.int .i64)], [.row (.int .i64)]⟩, 2⟩)]
noncomputable def h46 : How s46 := .code Tryz.f46 c46 hs46
noncomputable def c47 : Code := cd Tryz.f47
def s47 : Sig := ⟨⟨[.dat TI_, .dat TI_], []⟩, ⟨[.dat (.slice (.pair (.int .i64) (.one (.int .i64))))], []⟩⟩
def hs47 : List (List Nat × LH) := [([0, 1, 1, 1, 1], ⟨[0, 1, 5, 6, 7, 8], ⟨[.dat TI_, .dat TI_, .dat (.slice TI_), .ref 0, .dat (.int .i64), .dat (.int .i64)], [.row (.pair (.int .i64) (.one (.int .i64)))]⟩, 0⟩)]
noncomputable def h47 : How s47 := .code Tryz.f47 c47 hs47
noncomputable def c48 : Code := cd Tryz.f48
def s48 : Sig := ⟨⟨[.dat (.int .i64), .dat (.int .i64), .ptr 0 0, .ptr 1 0, .ptr 2 0, .ptr 3 0, .ptr 4 0], [.var (.int .i64), .var (.int .i64), .vrow TK_, .var TT_, .var TT_]⟩, ⟨[], [.var (.int .i64), .var (.int .i64), .vrow TK_, .var TT_, .var TT_]⟩⟩
def hs48 : List (List Nat × LH) := []
noncomputable def h48 : How s48 := .code Tryz.f48 c48 hs48
noncomputable def c49 : Code := cd Tryz.f49
def s49 : Sig := ⟨⟨[.dat TT_], []⟩, ⟨[.dat TT_], []⟩⟩
def hs49 : List (List Nat × LH) := [([0, 1, 0, 1, 1], ⟨[3, 6, 7, 8], ⟨[.ref 0, .dat TT_, .dat (.int .i64), .dat (.int .i64)], [.row TB_]⟩, 0⟩)]
noncomputable def h49 : How s49 := .code Tryz.f49 c49 hs49
noncomputable def c50 : Code := cd Tryz.f50
def s50 : Sig := ⟨⟨[.dat (.int .i64)], []⟩, ⟨[.dat .bool], []⟩⟩
def hs50 : List (List Nat × LH) := []
noncomputable def h50 : How s50 := .code Tryz.f50 c50 hs50
noncomputable def c51 : Code := cd Tryz.f51
def s51 : Sig := ⟨⟨[.dat TB_, .dat (.int .u8)], []⟩, ⟨[.dat (.int .i64)], []⟩⟩
def hs51 : List (List Nat × LH) := []
noncomputable def h51 : How s51 := .code Tryz.f51 c51 hs51
noncomputable def c53 : Code := cd Tryz.f53
def s53 : Sig := ⟨⟨[.dat TT_], []⟩, ⟨[.dat TT_], []⟩⟩
def hs53 : List (List Nat × LH) := [([0, 1, 0, 1, 1, 1, 1, 1], ⟨[4, 16, 17, 18], ⟨[.ref 0, .ref 1, .dat (.int .i64), .dat (.int .i64)], [.row TB_, .row TB_]⟩, 0⟩)]
noncomputable def h53 : How s53 := .code Tryz.f53 c53 hs53
noncomputable def c54 : Code := cd Tryz.f54
def s54 : Sig := ⟨⟨[.dat (.slice TT_)], []⟩, ⟨[.dat TT_], []⟩⟩
def hs54 : List (List Nat × LH) := [([0, 1, 0, 1, 1], ⟨[0, 3, 9, 10, 11], ⟨[.dat (.slice TT_), .dat (.int .i64), .dat (.slice TT_), .dat (.int .i64), .dat (.int .i64)], []⟩, 0⟩), ([0, 1, 0, 1, 1, 1, 1], ⟨[6, 25, 26, 27], ⟨[.ref 0, .dat (.slice TT_), .dat (.int .i64), .dat (.int .i64)], [.row TB_]⟩, 2⟩)]
noncomputable def h54 : How s54 := .code Tryz.f54 c54 hs54
noncomputable def c55 : Code := cd Tryz.f55
def s55 : Sig := ⟨⟨[.dat TT_, .dat TT_], []⟩, ⟨[.dat TI_, .dat .bool], []⟩⟩
def hs55 : List (List Nat × LH) := [([0, 1, 0, 1, 1], ⟨[0, 6, 14, 15, 16], ⟨[.dat TT_, .ref 0, .dat TT_, .dat (.int .i64), .dat (.int .i64)], [.row (.int .i64)]⟩, 0⟩)]
noncomputable def h55 : How s55 := .code Tryz.f55 c55 hs55
noncomputable def c57 : Code := cd Tryz.f57
def s57 : Sig := ⟨⟨[.dat (.int .i64)], []⟩, ⟨[.dat .bool], []⟩⟩
def hs57 : List (List Nat × LH) := []
noncomputable def h57 : How s57 := .code Tryz.f57 c57 hs57
noncomputable def c59 : Code := cd Tryz.f59
def s59 : Sig := ⟨⟨[.dat TT_], []⟩, ⟨[.dat TT_], []⟩⟩
def hs59 : List (List Nat × LH) := [([0, 0, 1, 0, 0, 1, 0, 0, 1, 0, 1, 1], ⟨[0, 3, 4, 5], ⟨[.dat TT_, .ref 0, .dat (.int .i64), .dat (.int .i64)], [.row TB_]⟩, 2⟩), ([0, 1, 0, 1, 1], ⟨[0, 3, 4], ⟨[.dat TT_, .ref 0, .dat (.int .i64)], [.row TB_]⟩, 0⟩)]
noncomputable def h59 : How s59 := .code Tryz.f59 c59 hs59
noncomputable def c60 : Code := cd Tryz.f60
def s60 : Sig := ⟨⟨[.dat TT_, .dat TT_], []⟩, ⟨[.dat TI_, .dat .bool], []⟩⟩
def hs60 : List (List Nat × LH) := [([0, 1, 0, 1, 1], ⟨[0, 1, 6, 7], ⟨[.dat TT_, .dat TT_, .ref 0, .dat (.int .i64)], [.row (.int .i64)]⟩, 0⟩)]
noncomputable def h60 : How s60 := .code Tryz.f60 c60 hs60
noncomputable def c61 : Code := cd Tryz.f61
def s61 : Sig := ⟨⟨[.dat (.int .i64), .dat TB_], []⟩, ⟨[.dat TT_, .dat (.int .i64)], []⟩⟩
def hs61 : List (List Nat × LH) := [([0, 1, 0, 1, 1, 1, 1], ⟨[0, 1, 6, 7, 8], ⟨[.dat (.int .i64), .dat TB_, .ref 0, .dat (.int .i64), .dat (.int .i64)], [.row TB_]⟩, 0⟩)]
noncomputable def h61 : How s61 := .code Tryz.f61 c61 hs61
noncomputable def c62 : Code := cd Tryz.f62
def s62 : Sig := ⟨⟨[.dat TB_, .dat TB_], []⟩, ⟨[.dat (.int .i64)], []⟩⟩
def hs62 : List (List Nat × LH) := [([0, 1, 1, 1, 1], ⟨[0, 1, 5], ⟨[.dat TB_, .dat TB_, .dat (.int .i64)], []⟩, 0⟩)]
noncomputable def h62 : How s62 := .code Tryz.f62 c62 hs62
noncomputable def c63 : Code := cd Tryz.f63
def s63 : Sig := ⟨⟨[.dat (.int .i64), .dat (.pair (.int .i64) (.pair (.int .i64) (.pair (.int .i64) (.one (.int .i64)))))], []⟩, ⟨[.dat (.int .i64), .dat (.int .i64)], []⟩⟩
def hs63 : List (List Nat × LH) := []
noncomputable def h63 : How s63 := .code Tryz.f63 c63 hs63
noncomputable def c64 : Code := cd Tryz.f64
def s64 : Sig := ⟨⟨[.dat (.int .i64), .dat (.pair (.int .i64) (.pair (.int .i64) (.pair (.int .i64) (.one (.int .i64)))))], []⟩, ⟨[.dat (.int .i64), .dat (.int .i64)], []⟩⟩
def hs64 : List (List Nat × LH) := []
noncomputable def h64 : How s64 := .code Tryz.f64 c64 hs64
noncomputable def c89 : Code := cd Tryz.f89
def s89 : Sig := ⟨⟨[.dat TI_, .dat (.int .i64)], []⟩, ⟨[.dat .bool], []⟩⟩
def hs89 : List (List Nat × LH) := []
noncomputable def h89 : How s89 := .code Tryz.f89 c89 hs89
noncomputable def c90 : Code := cd Tryz.f90
def s90 : Sig := ⟨⟨[.dat (.slice TI_), .dat TI_, .dat TI_, .dat (.int .i64), .dat (.int .i64)], []⟩, ⟨[.dat (.pair (.int .i64) (.one (.int .i64))), .dat .bool], []⟩⟩
def hs90 : List (List Nat × LH) := [([0, 1, 0, 0, 1, 0, 0, 1, 0, 1, 1, 1], ⟨[0, 1, 2, 4, 10, 12, 13, 14], ⟨[.dat (.slice TI_), .dat TI_, .dat TI_, .dat (.int .i64), .ptr 0 0, .dat (.int .i64), .dat (.int .i64), .dat (.int .i64)], [.var (.pair (.int .i64) (.one (.int .i64)))]⟩, 2⟩), ([0, 1, 0, 1, 1, 1], ⟨[0, 1, 2, 4, 10, 12, 13], ⟨[.dat (.slice TI_), .dat TI_, .dat TI_, .dat (.int .i64), .ptr 0 0, .dat (.int .i64), .dat (.int .i64)], [.var (.pair (.int .i64) (.one (.int .i64)))]⟩, 0⟩)]
noncomputable def h90 : How s90 := .code Tryz.f90 c90 hs90
noncomputable def c94 : Code := cd Tryz.f94
def s94 : Sig := ⟨⟨[.dat TB_, .dat TB_], []⟩, ⟨[.dat (.int .i64)], []⟩⟩
def hs94 : List (List Nat × LH) := []
noncomputable def h94 : How s94 := .code Tryz.f94 c94 hs94
noncomputable def c96 : Code := cd Tryz.f96
def s96 : Sig := ⟨⟨[.dat TB_, .dat TB_], []⟩, ⟨[.dat .bool], []⟩⟩
def hs96 : List (List Nat × LH) := []
noncomputable def h96 : How s96 := .code Tryz.f96 c96 hs96
noncomputable def c98 : Code := cd Tryz.f98
def s98 : Sig := ⟨⟨[.dat TT_, .dat TB_], []⟩, ⟨[.dat (.int .i64), .dat .bool], []⟩⟩
def hs98 : List (List Nat × LH) := []
noncomputable def h98 : How s98 := .code Tryz.f98 c98 hs98
noncomputable def c99 : Code := cd Tryz.f99
def s99 : Sig := ⟨⟨[.dat TB_, .dat TB_], []⟩, ⟨[.dat .bool], []⟩⟩
def hs99 : List (List Nat × LH) := [([0, 1, 0, 1], ⟨[0, 1, 5], ⟨[.dat TB_, .dat TB_, .dat (.int .i64)], []⟩, 0⟩)]
noncomputable def h99 : How s99 := .code Tryz.f99 c99 hs99
noncomputable def c100 : Code := cd Tryz.f100
def s100 : Sig := ⟨⟨[.dat TB_, .dat TB_], []⟩, ⟨[.dat .bool], []⟩⟩
def hs100 : List (List Nat × LH) := []
noncomputable def h100 : How s100 := .code Tryz.f100 c100 hs100
noncomputable def c101 : Code := cd Tryz.f101
def s101 : Sig := ⟨⟨[.dat TT_, .dat TB_], []⟩, ⟨[.dat (.int .i64), .dat .bool], []⟩⟩
def hs101 : List (List Nat × LH) := [([0, 1, 0, 1], ⟨[0, 1, 6], ⟨[.dat TT_, .dat TB_, .dat (.int .i64)], []⟩, 0⟩)]
noncomputable def h101 : How s101 := .code Tryz.f101 c101 hs101
noncomputable def c102 : Code := cd Tryz.f102
def s102 : Sig := ⟨⟨[.dat TB_], []⟩, ⟨[.dat (.int .i64)], []⟩⟩
def hs102 : List (List Nat × LH) := [([0, 0, 1, 1, 1], ⟨[0, 3, 4], ⟨[.dat TB_, .dat (.int .i64), .dat (.int .i64)], []⟩, 0⟩)]
noncomputable def h102 : How s102 := .code Tryz.f102 c102 hs102
noncomputable def c104 : Code := cd Tryz.f104
def s104 : Sig := ⟨⟨[.dat TB_, .dat TB_], []⟩, ⟨[.dat (.int .i64)], []⟩⟩
def hs104 : List (List Nat × LH) := [([0, 0, 1, 1, 1, 1, 1, 1, 0, 1, 1, 1, 1, 1, 1, 1, 1, 1, 0, 0, 1, 1], ⟨[0, 1, 5, 6, 7, 8, 9, 10], ⟨[.dat TB_, .dat TB_, .dat (.int .i64), .dat (.int .u8), .dat (.int .u8), .dat (.int .i64), .dat (.int .i64), .dat (.int .i64)], []⟩, 1⟩), ([0, 0, 1, 1, 1, 1, 1, 1, 1, 1], ⟨[0, 1, 5, 13, 14, 15, 16, 17], ⟨[.dat TB_, .dat TB_, .dat (.int .i64), .dat (.int .u8), .dat (.int .u8), .dat (.int .i64), .dat (.int .i64), .dat (.int .i64)], []⟩, 3⟩)]
noncomputable def h104 : How s104 := .code Tryz.f104 c104 hs104
noncomputable def c105 : Code := cd Tryz.f105
def s105 : Sig := ⟨⟨[.dat (.int .i64), .dat (.pair (.int .i64) (.pair (.int .i64) (.pair (.int .i64) (.one (.int .i64)))))], []⟩, ⟨[.dat .bool], []⟩⟩
def hs105 : List (List Nat × LH) := []
noncomputable def h105 : How s105 := .code Tryz.f105 c105 hs105
noncomputable def c106 : Code := cd Tryz.f106
def s106 : Sig := ⟨⟨[.dat (.int .i64), .dat (.int .i64)], []⟩, ⟨[.dat (.int .i64)], []⟩⟩
def hs106 : List (List Nat × LH) := []
noncomputable def h106 : How s106 := .code Tryz.f106 c106 hs106
noncomputable def c107 : Code := cd Tryz.f107
def s107 : Sig := ⟨⟨[.dat (.int .i64)], []⟩, ⟨[.dat (.int .i64)], []⟩⟩
def hs107 : List (List Nat × LH) := []
noncomputable def h107 : How s107 := .code Tryz.f107 c107 hs107
noncomputable def c129 : Code := cd Tryz.f129
def s129 : Sig := ⟨⟨[.dat (.int .u64)], []⟩, ⟨[.dat (.int .i64)], []⟩⟩
def hs129 : List (List Nat × LH) := []
noncomputable def h129 : How s129 := .code Tryz.f129 c129 hs129
noncomputable def c131 : Code := cd Tryz.f131
def s131 : Sig := ⟨⟨[.dat TT_, .dat TB_, .fnc 94 []], []⟩, ⟨[.dat (.int .i64), .dat .bool], []⟩⟩
def hs131 : List (List Nat × LH) := [([0, 0, 1, 1, 1], ⟨[0, 1, 2, 8, 9, 10], ⟨[.dat TT_, .dat TB_, .fnc 94 [], .dat (.int .i64), .dat (.int .i64), .dat (.int .i64)], []⟩, 0⟩)]
noncomputable def h131 : How s131 := .code Tryz.f131 c131 hs131
noncomputable def c132 : Code := cd Tryz.f132
def s132 : Sig := ⟨⟨[.dat .str], []⟩, ⟨[.dat (.int .i64)], []⟩⟩
def hs132 : List (List Nat × LH) := [([0, 1, 0, 1], ⟨[2, 4], ⟨[.dat (.int .i64), .skip], []⟩, 0⟩)]
noncomputable def h132 : How s132 := .code Tryz.f132 c132 hs132
noncomputable def c134 : Code := cd Tryz.f134
def s134 : Sig := ⟨⟨[.dat (.int .i64)], []⟩, ⟨[.dat (.int .i64)], []⟩⟩
def hs134 : List (List Nat × LH) := []
noncomputable def h134 : How s134 := .code Tryz.f134 c134 hs134
noncomputable def c135 : Code := cd Tryz.f135
def s135 : Sig := ⟨⟨[.dat TB_, .dat TB_], []⟩, ⟨[.dat (.int .i64)], []⟩⟩
def hs135 : List (List Nat × LH) := [([0, 1, 0, 1, 1, 1, 1], ⟨[0, 1, 5, 6, 7, 8, 9], ⟨[.dat TB_, .dat TB_, .dat (.int .u32), .dat (.int .u32), .dat (.int .i64), .dat (.int .u32), .dat (.int .i64)], []⟩, 0⟩), ([0, 1, 0, 1, 1, 1, 1, 1, 1], ⟨[0, 1, 5, 6, 7, 8, 10], ⟨[.dat TB_, .dat TB_, .dat (.int .u32), .dat (.int .u32), .dat (.int .i64), .dat (.int .u32), .dat (.int .i64)], []⟩, 2⟩)]
noncomputable def h135 : How s135 := .code Tryz.f135 c135 hs135
noncomputable def c136 : Code := cd Tryz.f136
def s136 : Sig := ⟨⟨[.dat (.pair (.int .i64) (.pair (.int .i64) (.pair (.int .i64) (.one (.int .i64)))))], []⟩, ⟨[.dat .bool], []⟩⟩
def hs136 : List (List Nat × LH) := []
noncomputable def h136 : How s136 := .code Tryz.f136 c136 hs136
noncomputable def c162 : Code := cd Tryz.f162
def s162 : Sig := ⟨⟨[.dat (.int .u32)], []⟩, ⟨[.dat (.int .i64)], []⟩⟩
def hs162 : List (List Nat × LH) := []
noncomputable def h162 : How s162 := .code Tryz.f162 c162 hs162
noncomputable def c163 : Code := cd Tryz.f163
def s163 : Sig := ⟨⟨[.dat (.int .u64)], []⟩, ⟨[.dat (.int .i64)], []⟩⟩
def hs163 : List (List Nat × LH) := []
noncomputable def h163 : How s163 := .code Tryz.f163 c163 hs163
noncomputable def c164 : Code := cd Tryz.f164
def s164 : Sig := ⟨⟨[.dat TB_], []⟩, ⟨[.dat (.int .u32), .dat (.int .u32)], []⟩⟩
def hs164 : List (List Nat × LH) := [([0, 1, 0, 1, 1], ⟨[0, 4, 5], ⟨[.dat TB_, .dat (.int .u32), .dat (.int .i64)], []⟩, 0⟩), ([0, 1, 0, 1, 1, 1, 1], ⟨[4, 6, 7, 8], ⟨[.dat (.int .u32), .dat (.int .u32), .dat (.int .u32), .dat (.int .i64)], []⟩, 2⟩)]
noncomputable def h164 : How s164 := .code Tryz.f164 c164 hs164
noncomputable def c165 : Code := cd Tryz.f165
def s165 : Sig := ⟨⟨[.dat (.int .i64)], []⟩, ⟨[.dat .bool], []⟩⟩
def hs165 : List (List Nat × LH) := []
noncomputable def h165 : How s165 := .code Tryz.f165 c165 hs165
def s25 : Sig := ⟨⟨[.dat TI_, .dat TI_, .dat (.int .i64), .dat (.int .i64), .dat (.int .i64), .dat (.pair (.int .i64) (.one TI_))], []⟩, ⟨[.dat (.pair (.int .i64) (.one TI_))], []⟩⟩
def h25 : How s25 := .orc (fun _ x => PortX.nextB x)
def s32 : Sig := ⟨⟨[.dat TI_, .dat TI_], []⟩, ⟨[.dat (.pair (.int .i64) (.pair (.int .i64) (.pair (.int .i64) (.one (.int .i64)))))], []⟩⟩
def h32 : How s32 := .orc (fun _ x => PortX.shapeO x)
def s52 : Sig := ⟨⟨[.dat TB_], []⟩, ⟨[.dat TB_], []⟩⟩
def h52 : How s52 := .orc (fun _ x => BytesX.cloneB x)
def s56 : Sig := ⟨⟨[.dat TI_], []⟩, ⟨[.dat TI_], []⟩⟩
def h56 : How s56 := .orc (fun _ x => PortX.cloneI x)
def s58 : Sig := ⟨⟨[.dat TI_, .dat TI_], []⟩, ⟨[.dat (.slice TI_)], []⟩⟩
def h58 : How s58 := .orc (fun _ x => GridX.behS x)
def s65 : Sig := ⟨⟨[.dat TI_, .dat TI_], []⟩, ⟨[.dat (.slice TI_)], []⟩⟩
def h65 : How s65 := .orc (fun _ x => PortX.behG x)
def s91 : Sig := ⟨⟨[.dat TB_, .dat (.int .u8)], []⟩, ⟨[.dat (.int .i64)], []⟩⟩
def h91 : How s91 := .orc (fun _ x => BytesX.indexB x)
def s92 : Sig := ⟨⟨[.dat TT_], []⟩, ⟨[.ref 0], [.row TB_]⟩⟩
def h92 : How s92 := .orc (fun _ x => NameX.cloneR x)
def s93 : Sig := ⟨⟨[.ref 0, .fnc 94 []], [.row TB_]⟩, ⟨[], [.row TB_]⟩⟩
def h93 : How s93 := .orc (fun _ x => NameX.sortR x)
def s95 : Sig := ⟨⟨[.ref 0, .fnc 96 []], [.row TB_]⟩, ⟨[.ref 1], [.dead, .row TB_]⟩⟩
def h95 : How s95 := .orc (fun _ x => NameX.compactR x)
def s97 : Sig := ⟨⟨[.ref 0, .dat (.int .i64)], [.row TB_]⟩, ⟨[.ref 1], [.dead, .row TB_]⟩⟩
def h97 : How s97 := .orc (fun _ x => NameX.growR x)
def s103 : Sig := ⟨⟨[.dat TB_, .dat (.int .u8)], []⟩, ⟨[.dat (.int .i64)], []⟩⟩
def h103 : How s103 := .orc (fun _ x => PortX.countB x)
def s130 : Sig := ⟨⟨[.dat TB_, .dat TB_], []⟩, ⟨[.dat (.int .i64)], []⟩⟩
def h130 : How s130 := .orc (fun _ x => NameX.cmpB x)
noncomputable def E : Env := {
  fns := [⟨Sig.none, .none⟩,
    ⟨Sig.none, .none⟩,
    ⟨Sig.none, .none⟩,
    ⟨s3, h3⟩,
    ⟨s4, h4⟩,
    ⟨s5, h5⟩,
    ⟨s6, h6⟩,
    ⟨s7, h7⟩,
    ⟨s8, h8⟩,
    ⟨s9, h9⟩,
    ⟨s10, h10⟩,
    ⟨s11, h11⟩,
    ⟨s12, h12⟩,
    ⟨s13, h13⟩,
    ⟨s14, h14⟩,
    ⟨s15, h15⟩,
    ⟨s16, h16⟩,
    ⟨s17, h17⟩,
    ⟨s18, h18⟩,
    ⟨s19, h19⟩,
    ⟨s20, h20⟩,
    ⟨s21, h21⟩,
    ⟨s22, h22⟩,
    ⟨s23, h23⟩,
    ⟨s24, h24⟩,
    ⟨s25, h25⟩,
    ⟨s26, h26⟩,
    ⟨s27, h27⟩,
    ⟨s28, h28⟩,
    ⟨s29, h29⟩,
    ⟨s30, h30⟩,
    ⟨s31, h31⟩,
    ⟨s32, h32⟩,
    ⟨s33, h33⟩,
    ⟨s34, h34⟩,
    ⟨s35, h35⟩,
    ⟨Sig.none, .none⟩,
    ⟨Sig.none, .none⟩,
    ⟨Sig.none, .none⟩,
    ⟨Sig.none, .none⟩,
    ⟨Sig.none, .none⟩,
    ⟨Sig.none, .none⟩,
    ⟨Sig.none, .none⟩,
    ⟨Sig.none, .none⟩,
    ⟨s44, h44⟩,
    ⟨s45, h45⟩,
    ⟨s46, h46⟩,
    ⟨s47, h47⟩,
    ⟨s48, h48⟩,
    ⟨s49, h49⟩,
    ⟨s50, h50⟩,
    ⟨s51, h51⟩,
    ⟨s52, h52⟩,
    ⟨s53, h53⟩,
    ⟨s54, h54⟩,
    ⟨s55, h55⟩,
    ⟨s56, h56⟩,
    ⟨s57, h57⟩,
    ⟨s58, h58⟩,
    ⟨s59, h59⟩,
    ⟨s60, h60⟩,
    ⟨s61, h61⟩,
    ⟨s62, h62⟩,
    ⟨s63, h63⟩,
    ⟨s64, h64⟩,
    ⟨s65, h65⟩,
    ⟨Sig.none, .none⟩,
    ⟨Sig.none, .none⟩,
    ⟨Sig.none, .none⟩,
    ⟨Sig.none, .none⟩,
    ⟨Sig.none, .none⟩,
    ⟨Sig.none, .none⟩,
    ⟨Sig.none, .none⟩,
    ⟨Sig.none, .none⟩,
    ⟨Sig.none, .none⟩,
    ⟨Sig.none, .none⟩,
    ⟨Sig.none, .none⟩,
    ⟨Sig.none, .none⟩,
    ⟨Sig.none, .none⟩,
    ⟨Sig.none, .none⟩,
    ⟨Sig.none, .none⟩,
    ⟨Sig.none, .none⟩,
    ⟨Sig.none, .none⟩,
    ⟨Sig.none, .none⟩,
    ⟨Sig.none, .none⟩,
    ⟨Sig.none, .none⟩,
    ⟨Sig.none, .none⟩,
    ⟨Sig.none, .none⟩,
    ⟨Sig.none, .none⟩,
    ⟨s89, h89⟩,
    ⟨s90, h90⟩,
    ⟨s91, h91⟩,
    ⟨s92, h92⟩,
    ⟨s93, h93⟩,
    ⟨s94, h94⟩,
    ⟨s95, h95⟩,
    ⟨s96, h96⟩,
    ⟨s97, h97⟩,
    ⟨s98, h98⟩,
    ⟨s99, h99⟩,
    ⟨s100, h100⟩,
    ⟨s101, h101⟩,
    ⟨s102, h102⟩,
    ⟨s103, h103⟩,
    ⟨s104, h104⟩,
    ⟨s105, h105⟩,
    ⟨s106, h106⟩,
    ⟨s107, h107⟩,
    ⟨Sig.none, .none⟩,
    ⟨Sig.none, .none⟩,
    ⟨Sig.none, .none⟩,
    ⟨Sig.none, .none⟩,
    ⟨Sig.none, .none⟩,
    ⟨Sig.none, .none⟩,
    ⟨Sig.none, .none⟩,
    ⟨Sig.none, .none⟩,
    ⟨Sig.none, .none⟩,
    ⟨Sig.none, .none⟩,
    ⟨Sig.none, .none⟩,
    ⟨Sig.none, .none⟩,
    ⟨Sig.none, .none⟩,
    ⟨Sig.none, .none⟩,
    ⟨Sig.none, .none⟩,
    ⟨Sig.none, .none⟩,
    ⟨Sig.none, .none⟩,
    ⟨Sig.none, .none⟩,
    ⟨Sig.none, .none⟩,
    ⟨Sig.none, .none⟩,
    ⟨Sig.none, .none⟩,
    ⟨s129, h129⟩,
    ⟨s130, h130⟩,
    ⟨s131, h131⟩,
    ⟨s132, h132⟩,
    ⟨Sig.none, .none⟩,
    ⟨s134, h134⟩,
    ⟨s135, h135⟩,
    ⟨s136, h136⟩,
    ⟨Sig.none, .none⟩,
    ⟨Sig.none, .none⟩,
    ⟨Sig.none, .none⟩,
    ⟨Sig.none, .none⟩,
    ⟨Sig.none, .none⟩,
    ⟨Sig.none, .none⟩,
    ⟨Sig.none, .none⟩,
    ⟨Sig.none, .none⟩,
    ⟨Sig.none, .none⟩,
    ⟨Sig.none, .none⟩,
    ⟨Sig.none, .none⟩,
    ⟨Sig.none, .none⟩,
    ⟨Sig.none, .none⟩,
    ⟨Sig.none, .none⟩,
    ⟨Sig.none, .none⟩,
    ⟨Sig.none, .none⟩,
    ⟨Sig.none, .none⟩,
    ⟨Sig.none, .none⟩,
    ⟨Sig.none, .none⟩,
    ⟨Sig.none, .none⟩,
    ⟨Sig.none, .none⟩,
    ⟨Sig.none, .none⟩,
    ⟨Sig.none, .none⟩,
    ⟨Sig.none, .none⟩,
    ⟨Sig.none, .none⟩,
    ⟨s162, h162⟩,
    ⟨s163, h163⟩,
    ⟨s164, h164⟩,
    ⟨s165, h165⟩],
  tys := [none,
    none,
    some ⟨(.int .i64), 0⟩,
    some ⟨(.int .i64), 0⟩,
    some ⟨.bool, 0⟩,
    some ⟨(.int .u8), 0⟩,
    some ⟨(.int .u8), 0⟩,
    some ⟨(.pair (.int .i64) (.pair (.int .i64) (.pair .bool (.one (.int .u8))))), 0⟩,
    none,
    some ⟨.str, 0⟩,
    none,
    none,
    none,
    none,
    none,
    none,
    none,
    none,
    none,
    none,
    none,
    none,
    some ⟨TB_, 1⟩,
    none,
    some ⟨(.int .i64), 0⟩,
    none,
    none,
    none,
    some ⟨(.slice (.pair (.int .i64) (.one (.int .i64)))), 16⟩,
    some ⟨TH_, 56⟩,
    none,
    some ⟨(.pair (.int .i64) (.pair (.int .i64) (.pair (.int .i64) (.pair (.int .i64) (.pair (.slice (.pair (.int .i64) (.one (.int .i64)))) (.one TH_)))))), 0⟩,
    none,
    none,
    none,
    some ⟨(.pair (.int .i64) (.one (.int .i64))), 0⟩,
    none,
    none,
    none,
    none,
    some ⟨(.pair (.int .i64) (.one (.int .i64))), 1⟩,
    some ⟨TT_, 24⟩,
    some ⟨TI_, 8⟩,
    none,
    some ⟨(.pair TT_ (.pair TT_ (.pair TI_ (.pair TI_ (.pair (.int .i64) (.pair (.int .i64) (.pair TI_ (.one TI_)))))))), 0⟩,
    none,
    none,
    none,
    none,
    none,
    none,
    none,
    none,
    none,
    none,
    none,
    none,
    none,
    none,
    none,
    none,
    none,
    none,
    none,
    none,
    none,
    none,
    none,
    none,
    none,
    none,
    some ⟨(.pair (.int .i64) (.one TI_)), 0⟩,
    none,
    none,
    none,
    none,
    none,
    none,
    some ⟨(.pair (.int .i64) (.pair (.int .i64) (.pair (.int .i64) (.one (.int .i64))))), 0⟩,
    none,
    none,
    none,
    none,
    none,
    none,
    none,
    none,
    none,
    none,
    none,
    none,
    none,
    none,
    none,
    some ⟨TK_, 0⟩,
    none,
    none,
    none,
    none,
    none,
    none,
    none,
    some ⟨(.slice TI_), 24⟩,
    none,
    none,
    none,
    none,
    none,
    none,
    none,
    none,
    none,
    none,
    none,
    none,
    none,
    none,
    some ⟨(.int .u32), 0⟩,
    none,
    none,
    none,
    none,
    none,
    none,
    none,
    none,
    none,
    none,
    none,
    none,
    none,
    none,
    none,
    none,
    none,
    none,
    none,
    none,
    none,
    none,
    none,
    none,
    none,
    none,
    none,
    none,
    none,
    none,
    none,
    none,
    none,
    none,
    none,
    none,
    none,
    none,
    none,
    none,
    none,
    none,
    none,
    none,
    none,
    none,
    none,
    none,
    none,
    some ⟨(.slice TT_), 24⟩,
    none,
    none,
    none,
    none,
    none,
    none,
    none,
    none,
    none,
    none,
    none,
    none,
    none,
    none,
    none,
    none,
    none,
    none,
    none,
    none,
    none,
    none,
    none,
    none,
    none,
    none,
    some ⟨(.int .u64), 0⟩,
    some ⟨(.int .u64), 0⟩,
    none,
    none,
    none,
    none,
    none,
    none,
    none,
    none,
    none,
    none,
    none,
    none,
    none,
    none,
    none,
    none,
    none,
    none,
    none,
    none,
    none,
    none,
    none,
    none,
    none,
    none,
    none,
    none,
    none,
    none,
    none,
    none,
    none,
    none,
    none,
    none,
    none,
    none,
    none,
    none,
    none,
    none,
    none,
    none,
    none,
    none,
    none,
    none,
    none,
    none,
    none,
    none,
    none,
    none,
    none,
    none,
    none,
    none,
    none,
    none,
    none,
    none,
    none,
    none,
    none,
    none,
    none,
    none,
    none,
    none,
    none,
    none,
    none,
    none,
    none,
    none,
    none,
    none,
    none,
    none,
    none],
  vrs := [29],
  nvs := [(29, 62)] }
theorem tys : tysOK Tryz.prog E.tys = true := by decide +kernel
theorem ok3 (X : ExtRep) : EntryOK Tryz.prog X 3 s3 h3 := ⟨Tryz.func3, rfl, by decide, by decide⟩
theorem ok4 (X : ExtRep) : EntryOK Tryz.prog X 4 s4 h4 := ⟨Tryz.func4, rfl, by decide, by decide⟩
theorem ok5 (X : ExtRep) : EntryOK Tryz.prog X 5 s5 h5 := ⟨Tryz.func5, rfl, by decide, by decide⟩
theorem ok6 (X : ExtRep) : EntryOK Tryz.prog X 6 s6 h6 := ⟨Tryz.func6, rfl, by decide, by decide⟩
theorem ok7 (X : ExtRep) : EntryOK Tryz.prog X 7 s7 h7 := ⟨Tryz.func7, rfl, by decide, by decide⟩
theorem ok8 (X : ExtRep) : EntryOK Tryz.prog X 8 s8 h8 := ⟨Tryz.func8, rfl, by decide, by decide⟩
theorem ok9 (X : ExtRep) : EntryOK Tryz.prog X 9 s9 h9 := ⟨Tryz.func9, rfl, by decide, by decide⟩
theorem ok10 (X : ExtRep) : EntryOK Tryz.prog X 10 s10 h10 := ⟨Tryz.func10, rfl, by decide, by decide⟩
theorem ok11 (X : ExtRep) : EntryOK Tryz.prog X 11 s11 h11 := ⟨Tryz.func11, rfl, by decide, by decide⟩
theorem ok12 (X : ExtRep) : EntryOK Tryz.prog X 12 s12 h12 := ⟨Tryz.func12, rfl, by decide, by decide⟩
theorem ok13 (X : ExtRep) : EntryOK Tryz.prog X 13 s13 h13 := ⟨Tryz.func13, rfl, by decide, by decide⟩
theorem ok14 (X : ExtRep) : EntryOK Tryz.prog X 14 s14 h14 := ⟨Tryz.func14, rfl, by decide, by decide⟩
theorem ok15 (X : ExtRep) : EntryOK Tryz.prog X 15 s15 h15 := ⟨Tryz.func15, rfl, by decide, by decide⟩
theorem ok16 (X : ExtRep) : EntryOK Tryz.prog X 16 s16 h16 := ⟨Tryz.func16, rfl, by decide, by decide⟩
theorem ok17 (X : ExtRep) : EntryOK Tryz.prog X 17 s17 h17 := ⟨Tryz.func17, rfl, by decide, by decide⟩
theorem ok18 (X : ExtRep) : EntryOK Tryz.prog X 18 s18 h18 := ⟨Tryz.func18, rfl, by decide, by decide⟩
theorem ok19 (X : ExtRep) : EntryOK Tryz.prog X 19 s19 h19 := ⟨Tryz.func19, rfl, by decide, by decide⟩
theorem ok20 (X : ExtRep) : EntryOK Tryz.prog X 20 s20 h20 := ⟨Tryz.func20, rfl, by decide, by decide⟩
theorem ok21 (X : ExtRep) : EntryOK Tryz.prog X 21 s21 h21 := ⟨Tryz.func21, rfl, by decide, by decide⟩
theorem ok22 (X : ExtRep) : EntryOK Tryz.prog X 22 s22 h22 := ⟨Tryz.func22, rfl, by decide, by decide⟩
theorem ok23 (X : ExtRep) : EntryOK Tryz.prog X 23 s23 h23 := ⟨Tryz.func23, rfl, by decide, by decide⟩
theorem ok24 (X : ExtRep) : EntryOK Tryz.prog X 24 s24 h24 := ⟨Tryz.func24, rfl, by decide, by decide⟩
theorem ok26 (X : ExtRep) : EntryOK Tryz.prog X 26 s26 h26 := ⟨Tryz.func26, rfl, by decide, by decide⟩
theorem ok27 (X : ExtRep) : EntryOK Tryz.prog X 27 s27 h27 := ⟨Tryz.func27, rfl, by decide, by decide⟩
theorem ok28 (X : ExtRep) : EntryOK Tryz.prog X 28 s28 h28 := ⟨Tryz.func28, rfl, by decide, by decide⟩
theorem ok29 (X : ExtRep) : EntryOK Tryz.prog X 29 s29 h29 := ⟨Tryz.func29, rfl, by decide, by decide⟩
theorem ok30 (X : ExtRep) : EntryOK Tryz.prog X 30 s30 h30 := ⟨Tryz.func30, rfl, by decide, by decide⟩
theorem ok31 (X : ExtRep) : EntryOK Tryz.prog X 31 s31 h31 := ⟨Tryz.func31, rfl, by decide, by decide⟩
theorem ok33 (X : ExtRep) : EntryOK Tryz.prog X 33 s33 h33 := ⟨Tryz.func33, rfl, by decide, by decide⟩
theorem ok34 (X : ExtRep) : EntryOK Tryz.prog X 34 s34 h34 := ⟨Tryz.func34, rfl, by decide, by decide⟩
theorem ok35 (X : ExtRep) : EntryOK Tryz.prog X 35 s35 h35 := ⟨Tryz.func35, rfl, by decide, by decide⟩
theorem ok44 (X : ExtRep) : EntryOK Tryz.prog X 44 s44 h44 := ⟨Tryz.func44, rfl, by decide, by decide⟩
theorem ok45 (X : ExtRep) : EntryOK Tryz.prog X 45 s45 h45 := ⟨Tryz.func45, rfl, by decide, by decide⟩
theorem ok46 (X : ExtRep) : EntryOK Tryz.prog X 46 s46 h46 := ⟨Tryz.func46, rfl, by decide, by decide⟩
theorem ok47 (X : ExtRep) : EntryOK Tryz.prog X 47 s47 h47 := ⟨Tryz.func47, rfl, by decide, by decide⟩
theorem ok48 (X : ExtRep) : EntryOK Tryz.prog X 48 s48 h48 := ⟨Tryz.func48, rfl, by decide, by decide⟩
theorem ok49 (X : ExtRep) : EntryOK Tryz.prog X 49 s49 h49 := ⟨Tryz.func49, rfl, by decide, by decide⟩
theorem ok50 (X : ExtRep) : EntryOK Tryz.prog X 50 s50 h50 := ⟨Tryz.func50, rfl, by decide, by decide⟩
theorem ok51 (X : ExtRep) : EntryOK Tryz.prog X 51 s51 h51 := ⟨Tryz.func51, rfl, by decide, by decide⟩
theorem ok53 (X : ExtRep) : EntryOK Tryz.prog X 53 s53 h53 := ⟨Tryz.func53, rfl, by decide, by decide⟩
theorem ok54 (X : ExtRep) : EntryOK Tryz.prog X 54 s54 h54 := ⟨Tryz.func54, rfl, by decide, by decide⟩
theorem ok55 (X : ExtRep) : EntryOK Tryz.prog X 55 s55 h55 := ⟨Tryz.func55, rfl, by decide, by decide⟩
theorem ok57 (X : ExtRep) : EntryOK Tryz.prog X 57 s57 h57 := ⟨Tryz.func57, rfl, by decide, by decide⟩
theorem ok59 (X : ExtRep) : EntryOK Tryz.prog X 59 s59 h59 := ⟨Tryz.func59, rfl, by decide, by decide⟩
theorem ok60 (X : ExtRep) : EntryOK Tryz.prog X 60 s60 h60 := ⟨Tryz.func60, rfl, by decide, by decide⟩
theorem ok61 (X : ExtRep) : EntryOK Tryz.prog X 61 s61 h61 := ⟨Tryz.func61, rfl, by decide, by decide⟩
theorem ok62 (X : ExtRep) : EntryOK Tryz.prog X 62 s62 h62 := ⟨Tryz.func62, rfl, by decide, by decide⟩
theorem ok63 (X : ExtRep) : EntryOK Tryz.prog X 63 s63 h63 := ⟨Tryz.func63, rfl, by decide, by decide⟩
theorem ok64 (X : ExtRep) : EntryOK Tryz.prog X 64 s64 h64 := ⟨Tryz.func64, rfl, by decide, by decide⟩
theorem ok89 (X : ExtRep) : EntryOK Tryz.prog X 89 s89 h89 := ⟨Tryz.func89, rfl, by decide, by decide⟩
theorem ok90 (X : ExtRep) : EntryOK Tryz.prog X 90 s90 h90 := ⟨Tryz.func90, rfl, by decide, by decide⟩
theorem ok94 (X : ExtRep) : EntryOK Tryz.prog X 94 s94 h94 := ⟨Tryz.func94, rfl, by decide, by decide⟩
theorem ok96 (X : ExtRep) : EntryOK Tryz.prog X 96 s96 h96 := ⟨Tryz.func96, rfl, by decide, by decide⟩
theorem ok98 (X : ExtRep) : EntryOK Tryz.prog X 98 s98 h98 := ⟨Tryz.func98, rfl, by decide, by decide⟩
theorem ok99 (X : ExtRep) : EntryOK Tryz.prog X 99 s99 h99 := ⟨Tryz.func99, rfl, by decide, by decide⟩
theorem ok100 (X : ExtRep) : EntryOK Tryz.prog X 100 s100 h100 := ⟨Tryz.func100, rfl, by decide, by decide⟩
theorem ok101 (X : ExtRep) : EntryOK Tryz.prog X 101 s101 h101 := ⟨Tryz.func101, rfl, by decide, by decide⟩
theorem ok102 (X : ExtRep) : EntryOK Tryz.prog X 102 s102 h102 := ⟨Tryz.func102, rfl, by decide, by decide⟩
theorem ok104 (X : ExtRep) : EntryOK Tryz.prog X 104 s104 h104 := ⟨Tryz.func104, rfl, by decide, by decide⟩
theorem ok105 (X : ExtRep) : EntryOK Tryz.prog X 105 s105 h105 := ⟨Tryz.func105, rfl, by decide, by decide⟩
theorem ok106 (X : ExtRep) : EntryOK Tryz.prog X 106 s106 h106 := ⟨Tryz.func106, rfl, by decide, by decide⟩
theorem ok107 (X : ExtRep) : EntryOK Tryz.prog X 107 s107 h107 := ⟨Tryz.func107, rfl, by decide, by decide⟩
theorem ok129 (X : ExtRep) : EntryOK Tryz.prog X 129 s129 h129 := ⟨Tryz.func129, rfl, by decide, by decide⟩
theorem ok131 (X : ExtRep) : EntryOK Tryz.prog X 131 s131 h131 := ⟨Tryz.func131, rfl, by decide, by decide⟩
theorem ok132 (X : ExtRep) : EntryOK Tryz.prog X 132 s132 h132 := ⟨Tryz.func132, rfl, by decide, by decide⟩
theorem ok134 (X : ExtRep) : EntryOK Tryz.prog X 134 s134 h134 := ⟨Tryz.func134, rfl, by decide, by decide⟩
theorem ok135 (X : ExtRep) : EntryOK Tryz.prog X 135 s135 h135 := ⟨Tryz.func135, rfl, by decide, by decide⟩
theorem ok136 (X : ExtRep) : EntryOK Tryz.prog X 136 s136 h136 := ⟨Tryz.func136, rfl, by decide, by decide⟩
theorem ok162 (X : ExtRep) : EntryOK Tryz.prog X 162 s162 h162 := ⟨Tryz.func162, rfl, by decide, by decide⟩
theorem ok163 (X : ExtRep) : EntryOK Tryz.prog X 163 s163 h163 := ⟨Tryz.func163, rfl, by decide, by decide⟩
theorem ok164 (X : ExtRep) : EntryOK Tryz.prog X 164 s164 h164 := ⟨Tryz.func164, rfl, by decide, by decide⟩
theorem ok165 (X : ExtRep) : EntryOK Tryz.prog X 165 s165 h165 := ⟨Tryz.func165, rfl, by decide, by decide⟩
def r3 (f4 : Unit → Option (Bool)) (f5 : Int → LI_ → LI_ → Int → Option (Int × Int)) (f6 : Int → LI_ → LI_ → Int → Option (Int × Int)) (a0 : Int) (a1 : LI_) (a2 : LI_) (a3 : Int) : Option (Bool) :=
Option.bind (f4 ()) fun y1 =>
let v2 : Bool := !y1
bif v2 then
some false
else
let v3 : Int := (a1.length : Int)
let v4 : Bool := decide (v3 > (40 : Int))
bif v4 == false then
let v5 : Int := (a2.length : Int)
let v6 : Bool := decide (v5 > (40 : Int))
bif v6 then
some true
else
Option.bind (f5 a0 a1 a2 a3) fun y7 =>
Option.bind (f6 a0 a1 a2 a3) fun y8 =>
let v9 : Bool := decide (y7.1 = y8.1)
bif v9 == true then
let v10 : Bool := decide (y7.2 = y8.2)
some v10
else
some false
else
some true
def r5 (f10 : Int → LI_ → LI_ → Option ((LL_ × (LL_ × (LI_ × (LI_ × (Int × (Int × (LI_ × LI_))))))) × Int)) (f11 : LI_ → LI_ → Int → Option (Int × Int × Int)) (a0 : Int) (a1 : LI_) (a2 : LI_) (a3 : Int) : Option (Int × Int) :=
let v1 : Bool := decide (a3 < (0 : Int))
bif v1 then
some ((0 : Int), (1 : Int))
else
Option.bind (f10 a0 a1 a2) fun y2 =>
let v3 : Bool := !decide (y2.2 = (0 : Int))
bif v3 then
some ((0 : Int), y2.2)
else
Option.bind (f11 y2.1.2.2.2.2.2.2.1 y2.1.2.2.2.2.2.2.2 a3) fun y4 =>
some (y4.1, y4.2.2)
def r6 (f12 : Int → Option (ByteArray)) (f13 : LI_ → LI_ → Option (Int)) (f14 : Int → LI_ → LI_ → Option (LI_ × LI_)) (a0 : Int) (a1 : LI_) (a2 : LI_) (a3 : Int) : Option (Int × Int) :=
Option.bind (f12 a0) fun y1 =>
let v2 : Bool := strEq y1 (⟨#[]⟩ : ByteArray)
bif v2 == false then
let v3 : Bool := decide (a3 < (0 : Int))
bif v3 then
some ((0 : Int), (1 : Int))
else
Option.bind (f14 a0 a1 a2) fun y4 =>
Option.bind (f13 y4.1 y4.2) fun y5 =>
let v6 : Bool := decide (y5 > a3)
bif v6 then
some ((0 : Int), (3 : Int))
else
some (y5, (0 : Int))
else
some ((0 : Int), (1 : Int))
def r10 (f20 : Int → LI_ → Option (LL_ × Int)) (f21 : LL_ → LL_ → Option (LI_ × LI_ × Int)) (f22 : LI_ → LI_ → Option (Int × Int)) (f23 : LI_ → LI_ → Option (LI_ × LI_)) (a0 : Int) (a1 : LI_) (a2 : LI_) : Option ((LL_ × (LL_ × (LI_ × (LI_ × (Int × (Int × (LI_ × LI_))))))) × Int) :=
Option.bind (f20 a0 a1) fun y1 =>
let v2 : (LL_ × (LL_ × (LI_ × (LI_ × (Int × (Int × (LI_ × LI_))))))) := (y1.1, (([] : List LI_), (([] : List LI_), (([] : List Int), (([] : List Int), ((0 : Int), ((0 : Int), (([] : List Int), ([] : List Int)))))))).2)
let v3 : Bool := !decide (y1.2 = (0 : Int))
bif v3 then
let v4 : (LL_ × (LL_ × (LI_ × (LI_ × (Int × (Int × (LI_ × LI_))))))) := (([] : List LI_), (([] : List LI_), (([] : List Int), (([] : List Int), ((0 : Int), ((0 : Int), (([] : List Int), ([] : List Int))))))))
some (v4, y1.2)
else
Option.bind (f20 a0 a2) fun y5 =>
let v6 : (LL_ × (LL_ × (LI_ × (LI_ × (Int × (Int × (LI_ × LI_))))))) := (v2.1, (y5.1, v2.2.2))
Option.bind (f21 v6.1 v6.2.1) fun y7 =>
let v8 : (LL_ × (LL_ × (LI_ × (LI_ × (Int × (Int × (LI_ × LI_))))))) := (v6.1, (v6.2.1, (y7.1, v6.2.2.2)))
let v9 : (LL_ × (LL_ × (LI_ × (LI_ × (Int × (Int × (LI_ × LI_))))))) := (v8.1, (v8.2.1, (v8.2.2.1, (y7.2.1, v8.2.2.2.2))))
Option.bind (f22 v9.2.2.1 v9.2.2.2.1) fun y10 =>
let v11 : (LL_ × (LL_ × (LI_ × (LI_ × (Int × (Int × (LI_ × LI_))))))) := (v9.1, (v9.2.1, (v9.2.2.1, (v9.2.2.2.1, (y10.1, v9.2.2.2.2.2)))))
let v12 : (LL_ × (LL_ × (LI_ × (LI_ × (Int × (Int × (LI_ × LI_))))))) := (v11.1, (v11.2.1, (v11.2.2.1, (v11.2.2.2.1, (v11.2.2.2.2.1, (y10.2, v11.2.2.2.2.2.2))))))
Option.bind (f23 v12.2.2.1 v12.2.2.2.1) fun y13 =>
let v14 : (LL_ × (LL_ × (LI_ × (LI_ × (Int × (Int × (LI_ × LI_))))))) := (v12.1, (v12.2.1, (v12.2.2.1, (v12.2.2.2.1, (v12.2.2.2.2.1, (v12.2.2.2.2.2.1, (y13.1, v12.2.2.2.2.2.2.2)))))))
let v15 : (LL_ × (LL_ × (LI_ × (LI_ × (Int × (Int × (LI_ × LI_))))))) := (v14.1, (v14.2.1, (v14.2.2.1, (v14.2.2.2.1, (v14.2.2.2.2.1, (v14.2.2.2.2.2.1, (v14.2.2.2.2.2.2.1, y13.2)))))))
some (v15, (0 : Int))
def F11_0 (f24 : Int → Int → Int → Option (Int × Int × Bool)) (f25 : LI_ → LI_ → Int → Int → Int → (Int × LI_) → Option ((Int × LI_))) (f26 : (Int × LI_) → Int → Option (Int)) (f27 : Int → Int → Int → Option (Int)) (self : (LI_ × LI_ × Int × Int × Int × Int × Int × (Int × LI_)) → Option ((LI_ × LI_ × Int × Int × Int × Int × Int × (Int × LI_)) ⊕ (Int × Int × Int))) (z10 : LI_ × LI_ × Int × Int × Int × Int × Int × (Int × LI_)) : Option ((LI_ × LI_ × Int × Int × Int × Int × Int × (Int × LI_)) ⊕ (Int × Int × Int)) :=
let v11 : Bool := decide (z10.2.2.2.2.2.2.1 < z10.2.2.2.2.2.1)
bif v11 then
Option.bind (f25 z10.1 z10.2.1 z10.2.2.2.2.2.2.1 z10.2.2.2.1 z10.2.2.2.2.1 z10.2.2.2.2.2.2.2) fun y12 =>
let v13 : Int := IntKind.wrap .i64 (z10.2.2.2.2.2.2.1 + (1 : Int))
self (z10.1, z10.2.1, z10.2.2.1, z10.2.2.2.1, z10.2.2.2.2.1, z10.2.2.2.2.2.1, v13, y12)
else
some (.inl (z10.1, z10.2.1, z10.2.2.1, z10.2.2.2.1, z10.2.2.2.2.1, z10.2.2.2.2.2.1, z10.2.2.2.2.2.2.1, z10.2.2.2.2.2.2.2))
def r11 (f24 : Int → Int → Int → Option (Int × Int × Bool)) (f25 : LI_ → LI_ → Int → Int → Int → (Int × LI_) → Option ((Int × LI_))) (f26 : (Int × LI_) → Int → Option (Int)) (f27 : Int → Int → Int → Option (Int)) (lp0 : (LI_ × LI_ × Int × Int × Int × Int × Int × (Int × LI_)) → Option ((LI_ × LI_ × Int × Int × Int × Int × Int × (Int × LI_)) ⊕ (Int × Int × Int))) (a0 : LI_) (a1 : LI_) (a2 : Int) : Option (Int × Int × Int) :=
let v1 : Bool := decide (a2 < (0 : Int))
bif v1 then
some ((0 : Int), (0 : Int), (1 : Int))
else
let v2 : Int := (a0.length : Int)
let v3 : Int := (a1.length : Int)
Option.bind (f24 v2 v3 a2) fun y4 =>
let v5 : Bool := !y4.2.2
bif v5 then
some ((0 : Int), (0 : Int), (3 : Int))
else
let v6 : Int := (a0.length : Int)
let v7 : Int := IntKind.wrap .i64 (v6 + (1 : Int))
Option.bind (lp0 (a0, a1, a2, y4.1, y4.2.1, v7, (0 : Int), ((0 : Int), ([] : List Int)))) fun s8 => onSum s8 (fun y9 =>
let v15 : Int := (y9.2.1.length : Int)
Option.bind (f26 y9.2.2.2.2.2.2.2 v15) fun y16 =>
let v17 : Bool := decide (y16 ≤ y9.2.2.1)
bif v17 then
let v18 : Int := (y9.1.length : Int)
let v19 : Int := (y9.2.1.length : Int)
Option.bind (f27 v18 v19 y9.2.2.1) fun y20 =>
some (y16, y20, (0 : Int))
else
some ((0 : Int), (0 : Int), (3 : Int))) (fun o14 => some o14)
def r12 (a0 : Int) : Option (ByteArray) :=
let v1 : Bool := decide (a0 = (0 : Int))
bif v1 then
some (⟨#[98, 121, 116, 101, 115]⟩ : ByteArray)
else
let v2 : Bool := decide (a0 = (1 : Int))
bif v2 then
some (⟨#[108, 105, 110, 101, 115]⟩ : ByteArray)
else
some (⟨#[]⟩ : ByteArray)
def r13 (f28 : LI_ → LI_ → Option (Int)) (a0 : LI_) (a1 : LI_) : Option (Int) :=
let v1 : Int := (a0.length : Int)
let v2 : Int := (a1.length : Int)
let v3 : Int := IntKind.wrap .i64 (v1 + v2)
Option.bind (f28 a0 a1) fun y4 =>
let v5 : Int := IntKind.wrap .i64 ((2 : Int) * y4)
let v6 : Int := IntKind.wrap .i64 (v3 - v5)
some v6
def r14 (f29 : LL_ → LL_ → Option (LI_ × LI_ × Int)) (f30 : Int → LI_ → Option (LL_)) (a0 : Int) (a1 : LI_) (a2 : LI_) : Option (LI_ × LI_) :=
Option.bind (f30 a0 a1) fun y1 =>
Option.bind (f30 a0 a2) fun y2 =>
Option.bind (f29 y1 y2) fun y3 =>
some (y3.1, y3.2.1)
def F20_0 (f50 : Int → Option (Bool)) (f51 : LI_ → Int → Option (Int)) (f52 : LI_ → Option (LI_)) (self : (Int × LI_ × LL_) → Option ((Int × LI_ × LL_) ⊕ (LL_ × Int))) (z5 : Int × LI_ × LL_) : Option ((Int × LI_ × LL_) ⊕ (LL_ × Int)) :=
let v6 : Int := (z5.2.1.length : Int)
let v7 : Bool := decide (v6 > (0 : Int))
bif v7 then
let v8 : Bool := decide (z5.1 = (1 : Int))
bif v8 then
Option.bind (f51 z5.2.1 (10 : Int)) fun y9 =>
let v10 : Int := IntKind.wrap .i64 (y9 + (1 : Int))
let v11 : Bool := decide (v10 = (0 : Int))
bif v11 then
let v12 : Int := (z5.2.1.length : Int)
if 0 ≤ (0 : Int) ∧ (0 : Int) ≤ v12 ∧ v12 ≤ (z5.2.1.length : Int) then
let v13 : LI_ := cut z5.2.1 (0 : Int) v12
Option.bind (f52 v13) fun y14 =>
let v15 : LL_ := ([y14] : List LI_)
if (z5.2.2.length + v15.length) * 24 ≤ 140737488355328 ∧ z5.2.2.length + v15.length ≤ 140737488355328 then
let v16 : LL_ := z5.2.2 ++ v15
if 0 ≤ v12 ∧ v12 ≤ (z5.2.1.length : Int) ∧ (z5.2.1.length : Int) ≤ (z5.2.1.length : Int) then
let v17 : LI_ := cut z5.2.1 v12 (z5.2.1.length : Int)
self (z5.1, v17, v16)
else none
else none
else none
else
if 0 ≤ (0 : Int) ∧ (0 : Int) ≤ v10 ∧ v10 ≤ (z5.2.1.length : Int) then
let v18 : LI_ := cut z5.2.1 (0 : Int) v10
Option.bind (f52 v18) fun y19 =>
let v20 : LL_ := ([y19] : List LI_)
if (z5.2.2.length + v20.length) * 24 ≤ 140737488355328 ∧ z5.2.2.length + v20.length ≤ 140737488355328 then
let v21 : LL_ := z5.2.2 ++ v20
if 0 ≤ v10 ∧ v10 ≤ (z5.2.1.length : Int) ∧ (z5.2.1.length : Int) ≤ (z5.2.1.length : Int) then
let v22 : LI_ := cut z5.2.1 v10 (z5.2.1.length : Int)
self (z5.1, v22, v21)
else none
else none
else none
else
if 0 ≤ (0 : Int) ∧ (0 : Int) ≤ (1 : Int) ∧ (1 : Int) ≤ (z5.2.1.length : Int) then
let v23 : LI_ := cut z5.2.1 (0 : Int) (1 : Int)
Option.bind (f52 v23) fun y24 =>
let v25 : LL_ := ([y24] : List LI_)
if (z5.2.2.length + v25.length) * 24 ≤ 140737488355328 ∧ z5.2.2.length + v25.length ≤ 140737488355328 then
let v26 : LL_ := z5.2.2 ++ v25
if 0 ≤ (1 : Int) ∧ (1 : Int) ≤ (z5.2.1.length : Int) ∧ (z5.2.1.length : Int) ≤ (z5.2.1.length : Int) then
let v27 : LI_ := cut z5.2.1 (1 : Int) (z5.2.1.length : Int)
self (z5.1, v27, v26)
else none
else none
else none
else
some (.inl (z5.1, z5.2.1, z5.2.2))
def r20 (f50 : Int → Option (Bool)) (f51 : LI_ → Int → Option (Int)) (f52 : LI_ → Option (LI_)) (lp0 : (Int × LI_ × LL_) → Option ((Int × LI_ × LL_) ⊕ (LL_ × Int))) (a0 : Int) (a1 : LI_) : Option (LL_ × Int) :=
Option.bind (f50 a0) fun y1 =>
let v2 : Bool := !y1
bif v2 then
some (([] : List LI_), (1 : Int))
else
Option.bind (lp0 (a0, a1, ([] : List LI_))) fun s3 => onSum s3 (fun y4 =>
some (y4.2.2, (0 : Int))) (fun o28 => some o28)
def r21 (f53 : LL_ → Option (LL_)) (f54 : (List LL_) → Option (LL_)) (f55 : LL_ → LL_ → Option (LI_ × Bool)) (a0 : LL_) (a1 : LL_) : Option (LI_ × LI_ × Int) :=
let v1 : (List LL_) := ([a0, a1] : List LL_)
Option.bind (f54 v1) fun y2 =>
Option.bind (f53 y2) fun y3 =>
Option.bind (f55 y3 a0) fun y4 =>
Option.bind (f55 y3 a1) fun y5 =>
let v6 : Int := (y3.length : Int)
some (y4.1, y5.1, v6)
def F22_0 (self : (LI_ × LI_ × Int × Int) → Option ((LI_ × LI_ × Int × Int) ⊕ (Int × Int))) (z3 : LI_ × LI_ × Int × Int) : Option ((LI_ × LI_ × Int × Int) ⊕ (Int × Int)) :=
let v4 : Int := (z3.1.length : Int)
let v5 : Bool := decide (z3.2.2.1 < v4)
bif v5 == true then
let v6 : Int := (z3.2.1.length : Int)
let v7 : Bool := decide (z3.2.2.1 < v6)
bif v7 == true then
if 0 ≤ z3.2.2.1 ∧ z3.2.2.1 < (z3.1.length : Int) then
let v8 : Int := z3.1.getD z3.2.2.1.toNat (0 : Int)
if 0 ≤ z3.2.2.1 ∧ z3.2.2.1 < (z3.2.1.length : Int) then
let v9 : Int := z3.2.1.getD z3.2.2.1.toNat (0 : Int)
let v10 : Bool := decide (v8 = v9)
bif v10 then
let v11 : Int := IntKind.wrap .i64 (z3.2.2.1 + (1 : Int))
self (z3.1, z3.2.1, v11, z3.2.2.2)
else
some (.inl (z3.1, z3.2.1, z3.2.2.1, z3.2.2.2))
else none
else none
else
some (.inl (z3.1, z3.2.1, z3.2.2.1, z3.2.2.2))
else
some (.inl (z3.1, z3.2.1, z3.2.2.1, z3.2.2.2))
def F22_1 (self : (LI_ × LI_ × Int × Int) → Option ((LI_ × LI_ × Int × Int) ⊕ (Int × Int))) (z17 : LI_ × LI_ × Int × Int) : Option ((LI_ × LI_ × Int × Int) ⊕ (Int × Int)) :=
let v18 : Int := (z17.1.length : Int)
let v19 : Bool := decide (z17.2.2.2 < v18)
bif v19 == true then
let v20 : Int := (z17.2.1.length : Int)
let v21 : Bool := decide (z17.2.2.2 < v20)
bif v21 == true then
let v22 : Int := (z17.1.length : Int)
let v23 : Int := IntKind.wrap .i64 (v22 - (1 : Int))
let v24 : Int := IntKind.wrap .i64 (v23 - z17.2.2.2)
if 0 ≤ v24 ∧ v24 < (z17.1.length : Int) then
let v25 : Int := z17.1.getD v24.toNat (0 : Int)
let v26 : Int := (z17.2.1.length : Int)
let v27 : Int := IntKind.wrap .i64 (v26 - (1 : Int))
let v28 : Int := IntKind.wrap .i64 (v27 - z17.2.2.2)
if 0 ≤ v28 ∧ v28 < (z17.2.1.length : Int) then
let v29 : Int := z17.2.1.getD v28.toNat (0 : Int)
let v30 : Bool := decide (v25 = v29)
bif v30 then
let v31 : Int := IntKind.wrap .i64 (z17.2.2.2 + (1 : Int))
self (z17.1, z17.2.1, z17.2.2.1, v31)
else
some (.inl (z17.1, z17.2.1, z17.2.2.1, z17.2.2.2))
else none
else none
else
some (.inl (z17.1, z17.2.1, z17.2.2.1, z17.2.2.2))
else
some (.inl (z17.1, z17.2.1, z17.2.2.1, z17.2.2.2))
def r22 (lp0 : (LI_ × LI_ × Int × Int) → Option ((LI_ × LI_ × Int × Int) ⊕ (Int × Int))) (lp1 : (LI_ × LI_ × Int × Int) → Option ((LI_ × LI_ × Int × Int) ⊕ (Int × Int))) (a0 : LI_) (a1 : LI_) : Option (Int × Int) :=
Option.bind (lp0 (a0, a1, (0 : Int), (0 : Int))) fun s1 => onSum s1 (fun y2 =>
if 0 ≤ y2.2.2.1 ∧ y2.2.2.1 ≤ (y2.1.length : Int) ∧ (y2.1.length : Int) ≤ (y2.1.length : Int) then
let v13 : LI_ := cut y2.1 y2.2.2.1 (y2.1.length : Int)
if 0 ≤ y2.2.2.1 ∧ y2.2.2.1 ≤ (y2.2.1.length : Int) ∧ (y2.2.1.length : Int) ≤ (y2.2.1.length : Int) then
let v14 : LI_ := cut y2.2.1 y2.2.2.1 (y2.2.1.length : Int)
Option.bind (lp1 (v13, v14, y2.2.2.1, y2.2.2.2)) fun s15 => onSum s15 (fun y16 =>
some (y16.2.2.1, y16.2.2.2)) (fun o32 => some o32)
else none
else none) (fun o12 => some o12)
def r23 (f22 : LI_ → LI_ → Option (Int × Int)) (f56 : LI_ → Option (LI_)) (a0 : LI_) (a1 : LI_) : Option (LI_ × LI_) :=
Option.bind (f22 a0 a1) fun y1 =>
let v2 : Int := (a0.length : Int)
let v3 : Int := IntKind.wrap .i64 (v2 - y1.2)
if 0 ≤ y1.1 ∧ y1.1 ≤ v3 ∧ v3 ≤ (a0.length : Int) then
let v4 : LI_ := cut a0 y1.1 v3
Option.bind (f56 v4) fun y5 =>
let v6 : Int := (a1.length : Int)
let v7 : Int := IntKind.wrap .i64 (v6 - y1.2)
if 0 ≤ y1.1 ∧ y1.1 ≤ v7 ∧ v7 ≤ (a1.length : Int) then
let v8 : LI_ := cut a1 y1.1 v7
Option.bind (f56 v8) fun y9 =>
some (y5, y9)
else none
else none
def r24 (a0 : Int) (a1 : Int) (a2 : Int) : Option (Int × Int × Bool) :=
let v1 : Int := IntKind.wrap .i64 (a0 - a1)
let v2 : Int := IntKind.wrap .i64 (0 - v1)
let v3 : Int := if v2 > v1 then v2 else v1
let v4 : Bool := decide (a2 < v3)
bif v4 then
some ((0 : Int), (0 : Int), false)
else
let v5 : Int := IntKind.wrap .i64 (0 - v1)
let v6 : Int := if v5 > v1 then v5 else v1
let v7 : Int := IntKind.wrap .i64 (a2 - v6)
if (2 : Int) = 0 then none else
let v8 : Int := IntKind.wrap .i64 (v7.tdiv (2 : Int))
let v9 : Int := IntKind.wrap .i64 (0 - a1)
let v10 : Int := if v1 < (0 : Int) then v1 else (0 : Int)
let v11 : Int := if a1 < v8 then a1 else v8
let v12 : Int := IntKind.wrap .i64 (v10 - v11)
let v13 : Int := if v12 > v9 then v12 else v9
let v14 : Int := if v1 > (0 : Int) then v1 else (0 : Int)
let v15 : Int := if a0 < v8 then a0 else v8
let v16 : Int := IntKind.wrap .i64 (v14 + v15)
let v17 : Int := if v16 < a0 then v16 else a0
some (v13, v17, true)
def r26 (a0 : (Int × LI_)) (a1 : Int) : Option (Int) :=
let v1 : Bool := decide (a1 < a0.1)
bif v1 == false then
let v2 : Int := (a0.2.length : Int)
let v3 : Int := IntKind.wrap .i64 (a0.1 + v2)
let v4 : Bool := decide (a1 ≥ v3)
bif v4 then
some (1152921504606846976 : Int)
else
let v5 : Int := IntKind.wrap .i64 (a1 - a0.1)
if 0 ≤ v5 ∧ v5 < (a0.2.length : Int) then
let v6 : Int := a0.2.getD v5.toNat (0 : Int)
some v6
else none
else
some (1152921504606846976 : Int)
def F27_0 (f24 : Int → Int → Int → Option (Int × Int × Bool)) (f57 : Int → Option (Bool)) (self : (Int × Int × Int × Int × Int) → Option ((Int × Int × Int × Int × Int) ⊕ (Int))) (z10 : Int × Int × Int × Int × Int) : Option ((Int × Int × Int × Int × Int) ⊕ (Int)) :=
let v11 : Bool := decide (z10.2.2.2.2 ≤ z10.2.2.1)
bif v11 then
let v12 : Int := IntKind.wrap .i64 (z10.1 - z10.2.2.2.2)
let v13 : Int := if v12 < z10.2.1 then v12 else z10.2.1
let v14 : Int := IntKind.wrap .i64 (0 - z10.2.2.2.2)
let v15 : Int := if v14 > (0 : Int) then v14 else (0 : Int)
let v16 : Int := IntKind.wrap .i64 (v13 - v15)
let v17 : Int := IntKind.wrap .i64 (v16 + (1 : Int))
let v18 : Int := IntKind.wrap .i64 (z10.2.2.2.1 + v17)
let v19 : Int := IntKind.wrap .i64 (z10.2.2.2.2 + (1 : Int))
self (z10.1, z10.2.1, z10.2.2.1, v18, v19)
else
some (.inl (z10.1, z10.2.1, z10.2.2.1, z10.2.2.2.1, z10.2.2.2.2))
def r27 (f24 : Int → Int → Int → Option (Int × Int × Bool)) (f57 : Int → Option (Bool)) (lp0 : (Int × Int × Int × Int × Int) → Option ((Int × Int × Int × Int × Int) ⊕ (Int))) (a0 : Int) (a1 : Int) (a2 : Int) : Option (Int) :=
Option.bind (f57 a0) fun y1 =>
let v2 : Bool := !y1
bif v2 == false then
Option.bind (f57 a1) fun y3 =>
let v4 : Bool := !y3
bif v4 == false then
let v5 : Bool := decide (a2 < (0 : Int))
bif v5 then
some (0 : Int)
else
Option.bind (f24 a0 a1 a2) fun y6 =>
let v7 : Bool := !y6.2.2
bif v7 then
some (0 : Int)
else
Option.bind (lp0 (a0, a1, y6.2.1, (0 : Int), y6.1)) fun s8 => onSum s8 (fun y9 =>
some y9.2.2.2.1) (fun o20 => some o20)
else
some (0 : Int)
else
some (0 : Int)
def r28 (f58 : LI_ → LI_ → Option (LL_)) (a0 : LI_) (a1 : LI_) : Option (Int) :=
Option.bind (f58 a0 a1) fun y1 =>
if 0 ≤ (0 : Int) ∧ (0 : Int) < (y1.length : Int) then
let v2 : LI_ := y1.getD (0 : Int).toNat ([] : List Int)
if 0 ≤ (0 : Int) ∧ (0 : Int) < (v2.length : Int) then
let v3 : Int := v2.getD (0 : Int).toNat (0 : Int)
some v3
else none
else none
def r29 (f59 : LL_ → Option (LL_)) (f60 : LL_ → LL_ → Option (LI_ × Bool)) (a0 : LL_) (a1 : LL_) : Option (LI_ × LI_ × Int) :=
let v1 : LL_ := ([] : List LI_)
if (v1.length + a0.length) * 24 ≤ 140737488355328 ∧ v1.length + a0.length ≤ 140737488355328 then
let v2 : LL_ := v1 ++ a0
if (v2.length + a1.length) * 24 ≤ 140737488355328 ∧ v2.length + a1.length ≤ 140737488355328 then
let v3 : LL_ := v2 ++ a1
Option.bind (f59 v3) fun y4 =>
Option.bind (f60 y4 a0) fun y5 =>
Option.bind (f60 y4 a1) fun y6 =>
let v7 : Int := (y4.length : Int)
some (y5.1, y6.1, v7)
else none
else none
def r30 (f61 : Int → LI_ → Option (LL_ × Int)) (a0 : Int) (a1 : LI_) : Option (LL_) :=
Option.bind (f61 a0 a1) fun y1 =>
some y1.1
def r50 (a0 : Int) : Option (Bool) :=
let v1 : Bool := decide (a0 = (0 : Int))
bif v1 == false then
let v2 : Bool := decide (a0 = (1 : Int))
some v2
else
some true
def r51 (f91 : LI_ → Int → Option (Int)) (a0 : LI_) (a1 : Int) : Option (Int) :=
Option.bind (f91 a0 a1) fun y1 =>
some y1
def F53_0 (f52 : LI_ → Option (LI_)) (f92 : LL_ → Option (LL_)) (f93 : LL_ → Option (LL_)) (f95 : LL_ → Option (LL_)) (self : (Int × Int × LL_ × LL_) → Option ((Int × Int × LL_ × LL_) ⊕ (LL_))) (z9 : Int × Int × LL_ × LL_) : Option ((Int × Int × LL_ × LL_) ⊕ (LL_)) :=
let v10 : Bool := decide (z9.2.1 < z9.1)
bif v10 then
if 0 ≤ z9.2.1 ∧ z9.2.1 < (z9.2.2.2.length : Int) then
let v11 : LI_ := (z9.2.2.2.getD z9.2.1.toNat ([] : List Int))
Option.bind (f52 v11) fun y12 =>
if 0 ≤ z9.2.1 ∧ z9.2.1 < (z9.2.2.1.length : Int) then
let v13 : LL_ := z9.2.2.1.set z9.2.1.toNat y12
let v14 : Int := IntKind.wrap .i64 (z9.2.1 + (1 : Int))
self (z9.1, v14, v13, z9.2.2.2)
else none
else none
else
some (.inl (z9.1, z9.2.1, z9.2.2.1, z9.2.2.2))
def r53 (f52 : LI_ → Option (LI_)) (f92 : LL_ → Option (LL_)) (f93 : LL_ → Option (LL_)) (f95 : LL_ → Option (LL_)) (lp0 : (Int × Int × LL_ × LL_) → Option ((Int × Int × LL_ × LL_) ⊕ (LL_))) (a0 : LL_) : Option (LL_) :=
Option.bind (f92 a0) fun y1 =>
Option.bind (f93 y1) fun y2 =>
Option.bind (f95 y2) fun y3 =>
let v4 : Int := (y3.length : Int)
if 0 ≤ v4 ∧ v4 ≤ v4 ∧ v4 * (24 : Int) ≤ 140737488355328 ∧ v4 ≤ 140737488355328 then
let v5 : LL_ := List.replicate v4.toNat ([] : List Int)
let v6 : Int := (y3.length : Int)
Option.bind (lp0 (v6, (0 : Int), v5, y3)) fun s7 => onSum s7 (fun y8 =>
some y8.2.2.1) (fun o15 => some o15)
else none
def F54_0 (f97 : Int → LL_ → Option (LL_)) (self : ((List LL_) × Int × (List LL_) × Int × Int) → Option (((List LL_) × Int × (List LL_) × Int × Int) ⊕ (LL_))) (z4 : (List LL_) × Int × (List LL_) × Int × Int) : Option (((List LL_) × Int × (List LL_) × Int × Int) ⊕ (LL_)) :=
let v5 : Bool := decide (z4.2.2.2.2 < z4.2.2.2.1)
bif v5 then
if 0 ≤ z4.2.2.2.2 ∧ z4.2.2.2.2 < (z4.2.2.1.length : Int) then
let v6 : LL_ := z4.2.2.1.getD z4.2.2.2.2.toNat ([] : List LI_)
let v7 : Int := (v6.length : Int)
let v8 : Int := IntKind.wrap .i64 (z4.2.1 + v7)
let v9 : Bool := decide (v8 < (0 : Int))
bif v9 then
none
else
let v10 : Int := IntKind.wrap .i64 (z4.2.2.2.2 + (1 : Int))
self (z4.1, v8, z4.2.2.1, z4.2.2.2.1, v10)
else none
else
some (.inl (z4.1, z4.2.1, z4.2.2.1, z4.2.2.2.1, z4.2.2.2.2))
def F54_1 (f97 : Int → LL_ → Option (LL_)) (self : ((List LL_) × Int × Int × LL_) → Option (((List LL_) × Int × Int × LL_) ⊕ (LL_))) (z16 : (List LL_) × Int × Int × LL_) : Option (((List LL_) × Int × Int × LL_) ⊕ (LL_)) :=
let v17 : Bool := decide (z16.2.2.1 < z16.2.1)
bif v17 then
if 0 ≤ z16.2.2.1 ∧ z16.2.2.1 < (z16.1.length : Int) then
let v18 : LL_ := z16.1.getD z16.2.2.1.toNat ([] : List LI_)
if (z16.2.2.2.length + v18.length) * 24 ≤ 140737488355328 ∧ z16.2.2.2.length + v18.length ≤ 140737488355328 then
let v19 : LL_ := z16.2.2.2 ++ v18
let v20 : Int := IntKind.wrap .i64 (z16.2.2.1 + (1 : Int))
self (z16.1, z16.2.1, v20, v19)
else none
else none
else
some (.inl (z16.1, z16.2.1, z16.2.2.1, z16.2.2.2))
def r54 (f97 : Int → LL_ → Option (LL_)) (lp0 : ((List LL_) × Int × (List LL_) × Int × Int) → Option (((List LL_) × Int × (List LL_) × Int × Int) ⊕ (LL_))) (lp1 : ((List LL_) × Int × Int × LL_) → Option (((List LL_) × Int × Int × LL_) ⊕ (LL_))) (a0 : (List LL_)) : Option (LL_) :=
let v1 : Int := (a0.length : Int)
Option.bind (lp0 (a0, (0 : Int), a0, v1, (0 : Int))) fun s2 => onSum s2 (fun y3 =>
Option.bind (f97 y3.2.1 ([] : List LI_)) fun y12 =>
let v13 : Int := (y3.1.length : Int)
Option.bind (lp1 (y3.1, v13, (0 : Int), y12)) fun s14 => onSum s14 (fun y15 =>
some y15.2.2.2) (fun o21 => some o21)) (fun o11 => some o11)
def F55_0 (f98 : LL_ → LI_ → Option (Int × Bool)) (self : (LL_ × LL_ × Int × Int × LI_) → Option ((LL_ × LL_ × Int × Int × LI_) ⊕ (LI_ × Bool))) (z6 : LL_ × LL_ × Int × Int × LI_) : Option ((LL_ × LL_ × Int × Int × LI_) ⊕ (LI_ × Bool)) :=
let v7 : Bool := decide (z6.2.2.2.1 < z6.2.2.1)
bif v7 then
if 0 ≤ z6.2.2.2.1 ∧ z6.2.2.2.1 < (z6.2.1.length : Int) then
let v8 : LI_ := z6.2.1.getD z6.2.2.2.1.toNat ([] : List Int)
Option.bind (f98 z6.1 v8) fun y9 =>
let v10 : Bool := !y9.2
bif v10 then
some (.inr (([] : List Int), false))
else
if 0 ≤ z6.2.2.2.1 ∧ z6.2.2.2.1 < (z6.2.2.2.2.length : Int) then
let v11 : LI_ := z6.2.2.2.2.set z6.2.2.2.1.toNat y9.1
let v12 : Int := IntKind.wrap .i64 (z6.2.2.2.1 + (1 : Int))
self (z6.1, z6.2.1, z6.2.2.1, v12, v11)
else none
else none
else
some (.inl (z6.1, z6.2.1, z6.2.2.1, z6.2.2.2.1, z6.2.2.2.2))
def r55 (f98 : LL_ → LI_ → Option (Int × Bool)) (lp0 : (LL_ × LL_ × Int × Int × LI_) → Option ((LL_ × LL_ × Int × Int × LI_) ⊕ (LI_ × Bool))) (a0 : LL_) (a1 : LL_) : Option (LI_ × Bool) :=
let v1 : Int := (a1.length : Int)
if 0 ≤ v1 ∧ v1 ≤ v1 ∧ v1 * (8 : Int) ≤ 140737488355328 ∧ v1 ≤ 140737488355328 then
let v2 : LI_ := List.replicate v1.toNat (0 : Int)
let v3 : Int := (a1.length : Int)
Option.bind (lp0 (a0, a1, v3, (0 : Int), v2)) fun s4 => onSum s4 (fun y5 =>
some (y5.2.2.2.2, true)) (fun o13 => some o13)
else none
def r57 (a0 : Int) : Option (Bool) :=
let v1 : Bool := decide (a0 ≥ (0 : Int))
bif v1 == true then
let v2 : Bool := decide (a0 ≤ (1048576 : Int))
some v2
else
some false
def F59_0 (f99 : LI_ → LI_ → Option (Bool)) (f100 : LI_ → LI_ → Option (Bool)) (self : (LL_ × Int × Int × LL_) → Option ((LL_ × Int × Int × LL_) ⊕ (LL_))) (z8 : LL_ × Int × Int × LL_) : Option ((LL_ × Int × Int × LL_) ⊕ (LL_)) :=
let v9 : Int := (z8.2.2.2.length : Int)
let v10 : Bool := decide (z8.2.2.1 < v9)
bif v10 == true then
if 0 ≤ z8.2.2.1 ∧ z8.2.2.1 < (z8.2.2.2.length : Int) then
let v11 : LI_ := (z8.2.2.2.getD z8.2.2.1.toNat ([] : List Int))
if 0 ≤ z8.2.1 ∧ z8.2.1 < (z8.1.length : Int) then
let v12 : LI_ := z8.1.getD z8.2.1.toNat ([] : List Int)
Option.bind (f99 v11 v12) fun y13 =>
bif y13 then
let v14 : Int := IntKind.wrap .i64 (z8.2.2.1 + (1 : Int))
self (z8.1, z8.2.1, v14, z8.2.2.2)
else
some (.inl (z8.1, z8.2.1, z8.2.2.1, z8.2.2.2))
else none
else none
else
some (.inl (z8.1, z8.2.1, z8.2.2.1, z8.2.2.2))
def F59_1 (f99 : LI_ → LI_ → Option (Bool)) (f100 : LI_ → LI_ → Option (Bool)) (lp0 : (LL_ × Int × Int × LL_) → Option ((LL_ × Int × Int × LL_) ⊕ (LL_))) (self : (LL_ × Int × LL_) → Option ((LL_ × Int × LL_) ⊕ (LL_))) (z3 : LL_ × Int × LL_) : Option ((LL_ × Int × LL_) ⊕ (LL_)) :=
let v4 : Int := (z3.1.length : Int)
let v5 : Bool := decide (z3.2.1 < v4)
bif v5 then
Option.bind (lp0 (z3.1, z3.2.1, (0 : Int), z3.2.2)) fun s6 => onSum s6 (fun y7 =>
let v16 : Int := (y7.2.2.2.length : Int)
let v17 : Bool := decide (y7.2.2.1 < v16)
bif v17 == true then
if 0 ≤ y7.2.2.1 ∧ y7.2.2.1 < (y7.2.2.2.length : Int) then
let v18 : LI_ := (y7.2.2.2.getD y7.2.2.1.toNat ([] : List Int))
if 0 ≤ y7.2.1 ∧ y7.2.1 < (y7.1.length : Int) then
let v19 : LI_ := y7.1.getD y7.2.1.toNat ([] : List Int)
Option.bind (f100 v18 v19) fun y20 =>
bif y20 then
let v21 : Int := IntKind.wrap .i64 (y7.2.1 + (1 : Int))
self (y7.1, v21, y7.2.2.2)
else
let v22 : LL_ := ([] : List LI_)
if 0 ≤ (0 : Int) ∧ (0 : Int) ≤ y7.2.2.1 ∧ y7.2.2.1 ≤ (y7.2.2.2.length : Int) then
let v23 : LL_ := cut y7.2.2.2 (0 : Int) y7.2.2.1
if (v22.length + v23.length) * 24 ≤ 140737488355328 ∧ v22.length + v23.length ≤ 140737488355328 then
let v24 : LL_ := v22 ++ v23
if 0 ≤ y7.2.1 ∧ y7.2.1 < (y7.1.length : Int) then
let v25 : LI_ := y7.1.getD y7.2.1.toNat ([] : List Int)
let v26 : LL_ := ([v25] : List LI_)
if (v24.length + v26.length) * 24 ≤ 140737488355328 ∧ v24.length + v26.length ≤ 140737488355328 then
let v27 : LL_ := v24 ++ v26
if 0 ≤ y7.2.2.1 ∧ y7.2.2.1 ≤ (y7.2.2.2.length : Int) ∧ (y7.2.2.2.length : Int) ≤ (y7.2.2.2.length : Int) then
let v28 : LL_ := cut y7.2.2.2 y7.2.2.1 (y7.2.2.2.length : Int)
if (v27.length + v28.length) * 24 ≤ 140737488355328 ∧ v27.length + v28.length ≤ 140737488355328 then
let v29 : LL_ := v27 ++ v28
let v30 : Int := IntKind.wrap .i64 (y7.2.1 + (1 : Int))
self (y7.1, v30, v29)
else none
else none
else none
else none
else none
else none
else none
else none
else
let v31 : LL_ := ([] : List LI_)
if 0 ≤ (0 : Int) ∧ (0 : Int) ≤ y7.2.2.1 ∧ y7.2.2.1 ≤ (y7.2.2.2.length : Int) then
let v32 : LL_ := cut y7.2.2.2 (0 : Int) y7.2.2.1
if (v31.length + v32.length) * 24 ≤ 140737488355328 ∧ v31.length + v32.length ≤ 140737488355328 then
let v33 : LL_ := v31 ++ v32
if 0 ≤ y7.2.1 ∧ y7.2.1 < (y7.1.length : Int) then
let v34 : LI_ := y7.1.getD y7.2.1.toNat ([] : List Int)
let v35 : LL_ := ([v34] : List LI_)
if (v33.length + v35.length) * 24 ≤ 140737488355328 ∧ v33.length + v35.length ≤ 140737488355328 then
let v36 : LL_ := v33 ++ v35
if 0 ≤ y7.2.2.1 ∧ y7.2.2.1 ≤ (y7.2.2.2.length : Int) ∧ (y7.2.2.2.length : Int) ≤ (y7.2.2.2.length : Int) then
let v37 : LL_ := cut y7.2.2.2 y7.2.2.1 (y7.2.2.2.length : Int)
if (v36.length + v37.length) * 24 ≤ 140737488355328 ∧ v36.length + v37.length ≤ 140737488355328 then
let v38 : LL_ := v36 ++ v37
let v39 : Int := IntKind.wrap .i64 (y7.2.1 + (1 : Int))
self (y7.1, v39, v38)
else none
else none
else none
else none
else none
else none) (fun o15 => some (.inr o15))
else
some (.inl (z3.1, z3.2.1, z3.2.2))
def r59 (f99 : LI_ → LI_ → Option (Bool)) (f100 : LI_ → LI_ → Option (Bool)) (lp0 : (LL_ × Int × Int × LL_) → Option ((LL_ × Int × Int × LL_) ⊕ (LL_))) (lp1 : (LL_ × Int × LL_) → Option ((LL_ × Int × LL_) ⊕ (LL_))) (a0 : LL_) : Option (LL_) :=
Option.bind (lp1 (a0, (0 : Int), ([] : List LI_))) fun s1 => onSum s1 (fun y2 =>
some y2.2.2) (fun o40 => some o40)
def F60_0 (f101 : LL_ → LI_ → Option (Int × Bool)) (self : (LL_ × LL_ × Int × LI_) → Option ((LL_ × LL_ × Int × LI_) ⊕ (LI_ × Bool))) (z3 : LL_ × LL_ × Int × LI_) : Option ((LL_ × LL_ × Int × LI_) ⊕ (LI_ × Bool)) :=
let v4 : Int := (z3.2.1.length : Int)
let v5 : Bool := decide (z3.2.2.1 < v4)
bif v5 then
if 0 ≤ z3.2.2.1 ∧ z3.2.2.1 < (z3.2.1.length : Int) then
let v6 : LI_ := z3.2.1.getD z3.2.2.1.toNat ([] : List Int)
Option.bind (f101 z3.1 v6) fun y7 =>
let v8 : Bool := !y7.2
bif v8 then
some (.inr (([] : List Int), false))
else
let v9 : LI_ := ([y7.1] : List Int)
if (z3.2.2.2.length + v9.length) * 8 ≤ 140737488355328 ∧ z3.2.2.2.length + v9.length ≤ 140737488355328 then
let v10 : LI_ := z3.2.2.2 ++ v9
let v11 : Int := IntKind.wrap .i64 (z3.2.2.1 + (1 : Int))
self (z3.1, z3.2.1, v11, v10)
else none
else none
else
some (.inl (z3.1, z3.2.1, z3.2.2.1, z3.2.2.2))
def r60 (f101 : LL_ → LI_ → Option (Int × Bool)) (lp0 : (LL_ × LL_ × Int × LI_) → Option ((LL_ × LL_ × Int × LI_) ⊕ (LI_ × Bool))) (a0 : LL_) (a1 : LL_) : Option (LI_ × Bool) :=
Option.bind (lp0 (a0, a1, (0 : Int), ([] : List Int))) fun s1 => onSum s1 (fun y2 =>
some (y2.2.2.2, true)) (fun o12 => some o12)
def F61_0 (self : (Int × LI_ × Int × Int × LL_) → Option ((Int × LI_ × Int × Int × LL_) ⊕ (LL_ × Int))) (z5 : Int × LI_ × Int × Int × LL_) : Option ((Int × LI_ × Int × Int × LL_) ⊕ (LL_ × Int)) :=
let v6 : Int := (z5.2.1.length : Int)
let v7 : Bool := decide (z5.2.2.2.1 < v6)
bif v7 then
let v8 : Bool := decide (z5.1 = (0 : Int))
bif v8 == false then
if 0 ≤ z5.2.2.2.1 ∧ z5.2.2.2.1 < (z5.2.1.length : Int) then
let v9 : Int := z5.2.1.getD z5.2.2.2.1.toNat (0 : Int)
let v10 : Bool := decide (v9 = (10 : Int))
bif v10 then
let v11 : Int := IntKind.wrap .i64 (z5.2.2.2.1 + (1 : Int))
if 0 ≤ z5.2.2.1 ∧ z5.2.2.1 ≤ v11 ∧ v11 ≤ (z5.2.1.length : Int) then
let v12 : LI_ := cut z5.2.1 z5.2.2.1 v11
let v13 : LL_ := ([v12] : List LI_)
if (z5.2.2.2.2.length + v13.length) * 24 ≤ 140737488355328 ∧ z5.2.2.2.2.length + v13.length ≤ 140737488355328 then
let v14 : LL_ := z5.2.2.2.2 ++ v13
let v15 : Int := IntKind.wrap .i64 (z5.2.2.2.1 + (1 : Int))
let v16 : Int := IntKind.wrap .i64 (z5.2.2.2.1 + (1 : Int))
self (z5.1, z5.2.1, v15, v16, v14)
else none
else none
else
let v17 : Int := IntKind.wrap .i64 (z5.2.2.2.1 + (1 : Int))
self (z5.1, z5.2.1, z5.2.2.1, v17, z5.2.2.2.2)
else none
else
let v18 : Int := IntKind.wrap .i64 (z5.2.2.2.1 + (1 : Int))
if 0 ≤ z5.2.2.1 ∧ z5.2.2.1 ≤ v18 ∧ v18 ≤ (z5.2.1.length : Int) then
let v19 : LI_ := cut z5.2.1 z5.2.2.1 v18
let v20 : LL_ := ([v19] : List LI_)
if (z5.2.2.2.2.length + v20.length) * 24 ≤ 140737488355328 ∧ z5.2.2.2.2.length + v20.length ≤ 140737488355328 then
let v21 : LL_ := z5.2.2.2.2 ++ v20
let v22 : Int := IntKind.wrap .i64 (z5.2.2.2.1 + (1 : Int))
let v23 : Int := IntKind.wrap .i64 (z5.2.2.2.1 + (1 : Int))
self (z5.1, z5.2.1, v22, v23, v21)
else none
else none
else
some (.inl (z5.1, z5.2.1, z5.2.2.1, z5.2.2.2.1, z5.2.2.2.2))
def r61 (lp0 : (Int × LI_ × Int × Int × LL_) → Option ((Int × LI_ × Int × Int × LL_) ⊕ (LL_ × Int))) (a0 : Int) (a1 : LI_) : Option (LL_ × Int) :=
let v1 : Bool := !decide (a0 = (0 : Int))
bif v1 == true then
let v2 : Bool := !decide (a0 = (1 : Int))
bif v2 then
some (([] : List LI_), (1 : Int))
else
Option.bind (lp0 (a0, a1, (0 : Int), (0 : Int), ([] : List LI_))) fun s3 => onSum s3 (fun y4 =>
let v25 : Int := (y4.2.1.length : Int)
let v26 : Bool := decide (y4.2.2.1 < v25)
bif v26 then
if 0 ≤ y4.2.2.1 ∧ y4.2.2.1 ≤ (y4.2.1.length : Int) ∧ (y4.2.1.length : Int) ≤ (y4.2.1.length : Int) then
let v27 : LI_ := cut y4.2.1 y4.2.2.1 (y4.2.1.length : Int)
let v28 : LL_ := ([v27] : List LI_)
if (y4.2.2.2.2.length + v28.length) * 24 ≤ 140737488355328 ∧ y4.2.2.2.2.length + v28.length ≤ 140737488355328 then
let v29 : LL_ := y4.2.2.2.2 ++ v28
some (v29, (0 : Int))
else none
else none
else
some (y4.2.2.2.2, (0 : Int))) (fun o24 => some o24)
else
Option.bind (lp0 (a0, a1, (0 : Int), (0 : Int), ([] : List LI_))) fun s30 => onSum s30 (fun y31 =>
let v33 : Int := (y31.2.1.length : Int)
let v34 : Bool := decide (y31.2.2.1 < v33)
bif v34 then
if 0 ≤ y31.2.2.1 ∧ y31.2.2.1 ≤ (y31.2.1.length : Int) ∧ (y31.2.1.length : Int) ≤ (y31.2.1.length : Int) then
let v35 : LI_ := cut y31.2.1 y31.2.2.1 (y31.2.1.length : Int)
let v36 : LL_ := ([v35] : List LI_)
if (y31.2.2.2.2.length + v36.length) * 24 ≤ 140737488355328 ∧ y31.2.2.2.2.length + v36.length ≤ 140737488355328 then
let v37 : LL_ := y31.2.2.2.2 ++ v36
some (v37, (0 : Int))
else none
else none
else
some (y31.2.2.2.2, (0 : Int))) (fun o32 => some o32)
def r94 (f130 : LI_ → LI_ → Option (Int)) (a0 : LI_) (a1 : LI_) : Option (Int) :=
Option.bind (f130 a0 a1) fun y1 =>
some y1
def r98 (f131 : LL_ → LI_ → Option (Int × Bool)) (a0 : LL_) (a1 : LI_) : Option (Int × Bool) :=
Option.bind (f131 a0 a1) fun y1 =>
let v2 : Bool := !y1.2
bif v2 then
some ((0 : Int), false)
else
some (y1.1, true)
def F99_0 (self : (LI_ × LI_ × Int) → Option ((LI_ × LI_ × Int) ⊕ (Bool))) (z3 : LI_ × LI_ × Int) : Option ((LI_ × LI_ × Int) ⊕ (Bool)) :=
let v4 : Int := (z3.1.length : Int)
let v5 : Bool := decide (z3.2.2 < v4)
bif v5 == true then
let v6 : Int := (z3.2.1.length : Int)
let v7 : Bool := decide (z3.2.2 < v6)
bif v7 then
if 0 ≤ z3.2.2 ∧ z3.2.2 < (z3.1.length : Int) then
let v8 : Int := z3.1.getD z3.2.2.toNat (0 : Int)
if 0 ≤ z3.2.2 ∧ z3.2.2 < (z3.2.1.length : Int) then
let v9 : Int := z3.2.1.getD z3.2.2.toNat (0 : Int)
let v10 : Bool := !decide (v8 = v9)
bif v10 then
if 0 ≤ z3.2.2 ∧ z3.2.2 < (z3.1.length : Int) then
let v11 : Int := z3.1.getD z3.2.2.toNat (0 : Int)
if 0 ≤ z3.2.2 ∧ z3.2.2 < (z3.2.1.length : Int) then
let v12 : Int := z3.2.1.getD z3.2.2.toNat (0 : Int)
let v13 : Bool := decide (v11 < v12)
some (.inr v13)
else none
else none
else
let v14 : Int := IntKind.wrap .i64 (z3.2.2 + (1 : Int))
self (z3.1, z3.2.1, v14)
else none
else none
else
some (.inl (z3.1, z3.2.1, z3.2.2))
else
some (.inl (z3.1, z3.2.1, z3.2.2))
def r99 (lp0 : (LI_ × LI_ × Int) → Option ((LI_ × LI_ × Int) ⊕ (Bool))) (a0 : LI_) (a1 : LI_) : Option (Bool) :=
Option.bind (lp0 (a0, a1, (0 : Int))) fun s1 => onSum s1 (fun y2 =>
let v16 : Int := (y2.1.length : Int)
let v17 : Int := (y2.2.1.length : Int)
let v18 : Bool := decide (v16 < v17)
some v18) (fun o15 => some o15)
def r100 (a0 : LI_) (a1 : LI_) : Option (Bool) :=
let v1 : ByteArray := bytesStr a0
let v2 : ByteArray := bytesStr a1
let v3 : Bool := strEq v1 v2
some v3
def F101_0 (f100 : LI_ → LI_ → Option (Bool)) (self : (LL_ × LI_ × Int) → Option ((LL_ × LI_ × Int) ⊕ (Int × Bool))) (z3 : LL_ × LI_ × Int) : Option ((LL_ × LI_ × Int) ⊕ (Int × Bool)) :=
let v4 : Int := (z3.1.length : Int)
let v5 : Bool := decide (z3.2.2 < v4)
bif v5 then
if 0 ≤ z3.2.2 ∧ z3.2.2 < (z3.1.length : Int) then
let v6 : LI_ := z3.1.getD z3.2.2.toNat ([] : List Int)
Option.bind (f100 v6 z3.2.1) fun y7 =>
bif y7 then
some (.inr (z3.2.2, true))
else
let v8 : Int := IntKind.wrap .i64 (z3.2.2 + (1 : Int))
self (z3.1, z3.2.1, v8)
else none
else
some (.inl (z3.1, z3.2.1, z3.2.2))
def r101 (f100 : LI_ → LI_ → Option (Bool)) (lp0 : (LL_ × LI_ × Int) → Option ((LL_ × LI_ × Int) ⊕ (Int × Bool))) (a0 : LL_) (a1 : LI_) : Option (Int × Bool) :=
Option.bind (lp0 (a0, a1, (0 : Int))) fun s1 => onSum s1 (fun y2 =>
some ((0 : Int), false)) (fun o9 => some o9)
def F131_0 (f94 : LI_ → LI_ → Option (Int)) (self : (LL_ × LI_ × Int × Int × Int) → Option ((LL_ × LI_ × Int × Int × Int) ⊕ (Int × Bool))) (z4 : LL_ × LI_ × Int × Int × Int) : Option ((LL_ × LI_ × Int × Int × Int) ⊕ (Int × Bool)) :=
let v5 : Bool := decide (z4.2.2.2.1 < z4.2.2.2.2)
bif v5 then
let v6 : Int := IntKind.wrap .i64 (z4.2.2.2.1 + z4.2.2.2.2)
let v7 : Int := IntKind.wrap .u64 v6
if (1 : Int) < 0 then none else
let v8 : Int := v7.fdiv (2 ^ (min (1 : Int).toNat (IntKind.bits .u64)))
let v9 : Int := IntKind.wrap .i64 v8
if 0 ≤ v9 ∧ v9 < (z4.1.length : Int) then
let v10 : LI_ := z4.1.getD v9.toNat ([] : List Int)
Option.bind (f94 v10 z4.2.1) fun y11 =>
let v12 : Bool := decide (y11 < (0 : Int))
bif v12 then
let v13 : Int := IntKind.wrap .i64 (v9 + (1 : Int))
self (z4.1, z4.2.1, z4.2.2.1, v13, z4.2.2.2.2)
else
self (z4.1, z4.2.1, z4.2.2.1, z4.2.2.2.1, v9)
else none
else
some (.inl (z4.1, z4.2.1, z4.2.2.1, z4.2.2.2.1, z4.2.2.2.2))
def r131 (f94 : LI_ → LI_ → Option (Int)) (lp0 : (LL_ × LI_ × Int × Int × Int) → Option ((LL_ × LI_ × Int × Int × Int) ⊕ (Int × Bool))) (a0 : LL_) (a1 : LI_) : Option (Int × Bool) :=
let v1 : Int := (a0.length : Int)
Option.bind (lp0 (a0, a1, v1, (0 : Int), v1)) fun s2 => onSum s2 (fun y3 =>
let v15 : Bool := decide (y3.2.2.2.1 < y3.2.2.1)
bif v15 == true then
if 0 ≤ y3.2.2.2.1 ∧ y3.2.2.2.1 < (y3.1.length : Int) then
let v16 : LI_ := y3.1.getD y3.2.2.2.1.toNat ([] : List Int)
Option.bind (f94 v16 y3.2.1) fun y17 =>
let v18 : Bool := decide (y17 = (0 : Int))
some (y3.2.2.2.1, v18)
else none
else
some (y3.2.2.2.1, false)) (fun o14 => some o14)
def g3 (call : CallFn E) : Int → LI_ → LI_ → Int → Option (Bool) := fun x0 x1 x2 x3 => call 3 (x0, x1, x2, x3)
def g4 (call : CallFn E) : Unit → Option (Bool) := fun _ => call 4 ()
def g5 (call : CallFn E) : Int → LI_ → LI_ → Int → Option (Int × Int) := fun x0 x1 x2 x3 => call 5 (x0, x1, x2, x3)
def g6 (call : CallFn E) : Int → LI_ → LI_ → Int → Option (Int × Int) := fun x0 x1 x2 x3 => call 6 (x0, x1, x2, x3)
def g10 (call : CallFn E) : Int → LI_ → LI_ → Option ((LL_ × (LL_ × (LI_ × (LI_ × (Int × (Int × (LI_ × LI_))))))) × Int) := fun x0 x1 x2 => call 10 (x0, x1, x2)
def g11 (call : CallFn E) : LI_ → LI_ → Int → Option (Int × Int × Int) := fun x0 x1 x2 => call 11 (x0, x1, x2)
def g12 (call : CallFn E) : Int → Option (ByteArray) := fun x0 => call 12 x0
def g13 (call : CallFn E) : LI_ → LI_ → Option (Int) := fun x0 x1 => call 13 (x0, x1)
def g14 (call : CallFn E) : Int → LI_ → LI_ → Option (LI_ × LI_) := fun x0 x1 x2 => call 14 (x0, x1, x2)
def g20 (call : CallFn E) : Int → LI_ → Option (LL_ × Int) := fun x0 x1 => call 20 (x0, x1)
def g21 (call : CallFn E) : LL_ → LL_ → Option (LI_ × LI_ × Int) := fun x0 x1 => call 21 (x0, x1)
def g22 (call : CallFn E) : LI_ → LI_ → Option (Int × Int) := fun x0 x1 => call 22 (x0, x1)
def g23 (call : CallFn E) : LI_ → LI_ → Option (LI_ × LI_) := fun x0 x1 => call 23 (x0, x1)
def g24 (call : CallFn E) : Int → Int → Int → Option (Int × Int × Bool) := fun x0 x1 x2 => call 24 (x0, x1, x2)
def g25 (call : CallFn E) : LI_ → LI_ → Int → Int → Int → (Int × LI_) → Option ((Int × LI_)) := fun x0 x1 x2 x3 x4 x5 => call 25 (x0, x1, x2, x3, x4, x5)
def g26 (call : CallFn E) : (Int × LI_) → Int → Option (Int) := fun x0 x1 => call 26 (x0, x1)
def g27 (call : CallFn E) : Int → Int → Int → Option (Int) := fun x0 x1 x2 => call 27 (x0, x1, x2)
def g28 (call : CallFn E) : LI_ → LI_ → Option (Int) := fun x0 x1 => call 28 (x0, x1)
def g29 (call : CallFn E) : LL_ → LL_ → Option (LI_ × LI_ × Int) := fun x0 x1 => call 29 (x0, x1)
def g30 (call : CallFn E) : Int → LI_ → Option (LL_) := fun x0 x1 => call 30 (x0, x1)
def g50 (call : CallFn E) : Int → Option (Bool) := fun x0 => call 50 x0
def g51 (call : CallFn E) : LI_ → Int → Option (Int) := fun x0 x1 => call 51 (x0, x1)
def g52 (call : CallFn E) : LI_ → Option (LI_) := fun x0 => call 52 x0
def g53 (call : CallFn E) : LL_ → Option (LL_) := fun x0 => call 53 x0
def g54 (call : CallFn E) : (List LL_) → Option (LL_) := fun x0 => call 54 x0
def g55 (call : CallFn E) : LL_ → LL_ → Option (LI_ × Bool) := fun x0 x1 => call 55 (x0, x1)
def g56 (call : CallFn E) : LI_ → Option (LI_) := fun x0 => call 56 x0
def g57 (call : CallFn E) : Int → Option (Bool) := fun x0 => call 57 x0
def g58 (call : CallFn E) : LI_ → LI_ → Option (LL_) := fun x0 x1 => call 58 (x0, x1)
def g59 (call : CallFn E) : LL_ → Option (LL_) := fun x0 => call 59 x0
def g60 (call : CallFn E) : LL_ → LL_ → Option (LI_ × Bool) := fun x0 x1 => call 60 (x0, x1)
def g61 (call : CallFn E) : Int → LI_ → Option (LL_ × Int) := fun x0 x1 => call 61 (x0, x1)
def g91 (call : CallFn E) : LI_ → Int → Option (Int) := fun x0 x1 => call 91 (x0, x1)
def g92 (call : CallFn E) : LL_ → Option (LL_) := fun x0 => call 92 x0
def g93 (call : CallFn E) : LL_ → Option (LL_) := fun x0 => call 93 x0
def g94 (call : CallFn E) : LI_ → LI_ → Option (Int) := fun x0 x1 => call 94 (x0, x1)
def g95 (call : CallFn E) : LL_ → Option (LL_) := fun x0 => call 95 x0
def g97 (call : CallFn E) : Int → LL_ → Option (LL_) := fun x0 x1 => call 97 (x0, x1)
def g98 (call : CallFn E) : LL_ → LI_ → Option (Int × Bool) := fun x0 x1 => call 98 (x0, x1)
def g99 (call : CallFn E) : LI_ → LI_ → Option (Bool) := fun x0 x1 => call 99 (x0, x1)
def g100 (call : CallFn E) : LI_ → LI_ → Option (Bool) := fun x0 x1 => call 100 (x0, x1)
def g101 (call : CallFn E) : LL_ → LI_ → Option (Int × Bool) := fun x0 x1 => call 101 (x0, x1)
def g130 (call : CallFn E) : LI_ → LI_ → Option (Int) := fun x0 x1 => call 130 (x0, x1)
def g131 (call : CallFn E) : LL_ → LI_ → Option (Int × Bool) := fun x0 x1 => call 131 (x0, x1)
noncomputable def q3 (call : CallFn E) (n : Nat) (a0 : Int) (a1 : LI_) (a2 : LI_) (a3 : Int) : Option (Bool) := runHow E call n s3 (a0, a1, a2, a3) h3
theorem rr3 (call : CallFn E) (n : Nat) (a0 : Int) (a1 : LI_) (a2 : LI_) (a3 : Int) : q3 call n a0 a1 a2 a3 = r3 (g4 call) (g5 call) (g6 call)  a0 a1 a2 a3 := by kernel_rfl
theorem gq3 (n : Nat) (a0 : Int) (a1 : LI_) (a2 : LI_) (a3 : Int) : g3 (evalF E (n + 1)) a0 a1 a2 a3 = q3 (evalF E n) n a0 a1 a2 a3 := by kernel_rfl
noncomputable def q5 (call : CallFn E) (n : Nat) (a0 : Int) (a1 : LI_) (a2 : LI_) (a3 : Int) : Option (Int × Int) := runHow E call n s5 (a0, a1, a2, a3) h5
theorem rr5 (call : CallFn E) (n : Nat) (a0 : Int) (a1 : LI_) (a2 : LI_) (a3 : Int) : q5 call n a0 a1 a2 a3 = r5 (g10 call) (g11 call)  a0 a1 a2 a3 := by kernel_rfl
theorem gq5 (n : Nat) (a0 : Int) (a1 : LI_) (a2 : LI_) (a3 : Int) : g5 (evalF E (n + 1)) a0 a1 a2 a3 = q5 (evalF E n) n a0 a1 a2 a3 := by kernel_rfl
noncomputable def q6 (call : CallFn E) (n : Nat) (a0 : Int) (a1 : LI_) (a2 : LI_) (a3 : Int) : Option (Int × Int) := runHow E call n s6 (a0, a1, a2, a3) h6
theorem rr6 (call : CallFn E) (n : Nat) (a0 : Int) (a1 : LI_) (a2 : LI_) (a3 : Int) : q6 call n a0 a1 a2 a3 = r6 (g12 call) (g13 call) (g14 call)  a0 a1 a2 a3 := by kernel_rfl
theorem gq6 (n : Nat) (a0 : Int) (a1 : LI_) (a2 : LI_) (a3 : Int) : g6 (evalF E (n + 1)) a0 a1 a2 a3 = q6 (evalF E n) n a0 a1 a2 a3 := by kernel_rfl
noncomputable def q10 (call : CallFn E) (n : Nat) (a0 : Int) (a1 : LI_) (a2 : LI_) : Option ((LL_ × (LL_ × (LI_ × (LI_ × (Int × (Int × (LI_ × LI_))))))) × Int) := runHow E call n s10 (a0, a1, a2) h10
theorem rr10 (call : CallFn E) (n : Nat) (a0 : Int) (a1 : LI_) (a2 : LI_) : q10 call n a0 a1 a2 = r10 (g20 call) (g21 call) (g22 call) (g23 call)  a0 a1 a2 := by kernel_rfl
theorem gq10 (n : Nat) (a0 : Int) (a1 : LI_) (a2 : LI_) : g10 (evalF E (n + 1)) a0 a1 a2 = q10 (evalF E n) n a0 a1 a2 := by kernel_rfl
def L11_0 : LH := ⟨[0, 1, 2, 9, 10, 12, 31, 32], ⟨[.dat TI_, .dat TI_, .dat (.int .i64), .dat (.int .i64), .dat (.int .i64), .ptr 0 0, .dat (.int .i64), .dat (.int .i64)], [.var (.pair (.int .i64) (.one TI_))]⟩, 0⟩
noncomputable def b11_0 : Code := codeAt c11 [1, 1, 1, 1, 1, 0, 1, 0, 0]
noncomputable def lq11_0 (call : CallFn E) (n m : Nat) (y : LI_ × LI_ × Int × Int × Int × Int × Int × (Int × LI_)) : Option ((LI_ × LI_ × Int × Int × Int × Int × Int × (Int × LI_)) ⊕ (Int × Int × Int)) := loopAt (ctxOf E call n s11 Tryz.f11 hs11) b11_0 [0, 1, 0, 1, 1, 1, 1, 1] L11_0 m y
theorem lp11_0 (call : CallFn E) (n m : Nat) (y : LI_ × LI_ × Int × Int × Int × Int × Int × (Int × LI_)) : lq11_0 call n (m + 1) y = F11_0 (g24 call) (g25 call) (g26 call) (g27 call)  (lq11_0 call n m) y := by kernel_rfl
noncomputable def q11 (call : CallFn E) (n : Nat) (a0 : LI_) (a1 : LI_) (a2 : Int) : Option (Int × Int × Int) := runHow E call n s11 (a0, a1, a2) h11
theorem rr11 (call : CallFn E) (n : Nat) (a0 : LI_) (a1 : LI_) (a2 : Int) : q11 call n a0 a1 a2 = r11 (g24 call) (g25 call) (g26 call) (g27 call) (lq11_0 call n n) a0 a1 a2 := by kernel_rfl
theorem gq11 (n : Nat) (a0 : LI_) (a1 : LI_) (a2 : Int) : g11 (evalF E (n + 1)) a0 a1 a2 = q11 (evalF E n) n a0 a1 a2 := by kernel_rfl
noncomputable def q12 (call : CallFn E) (n : Nat) (a0 : Int) : Option (ByteArray) := runHow E call n s12 a0 h12
theorem rr12 (call : CallFn E) (n : Nat) (a0 : Int) : q12 call n a0 = r12   a0 := by kernel_rfl
theorem gq12 (n : Nat) (a0 : Int) : g12 (evalF E (n + 1)) a0 = q12 (evalF E n) n a0 := by kernel_rfl
noncomputable def q13 (call : CallFn E) (n : Nat) (a0 : LI_) (a1 : LI_) : Option (Int) := runHow E call n s13 (a0, a1) h13
theorem rr13 (call : CallFn E) (n : Nat) (a0 : LI_) (a1 : LI_) : q13 call n a0 a1 = r13 (g28 call)  a0 a1 := by kernel_rfl
theorem gq13 (n : Nat) (a0 : LI_) (a1 : LI_) : g13 (evalF E (n + 1)) a0 a1 = q13 (evalF E n) n a0 a1 := by kernel_rfl
noncomputable def q14 (call : CallFn E) (n : Nat) (a0 : Int) (a1 : LI_) (a2 : LI_) : Option (LI_ × LI_) := runHow E call n s14 (a0, a1, a2) h14
theorem rr14 (call : CallFn E) (n : Nat) (a0 : Int) (a1 : LI_) (a2 : LI_) : q14 call n a0 a1 a2 = r14 (g29 call) (g30 call)  a0 a1 a2 := by kernel_rfl
theorem gq14 (n : Nat) (a0 : Int) (a1 : LI_) (a2 : LI_) : g14 (evalF E (n + 1)) a0 a1 a2 = q14 (evalF E n) n a0 a1 a2 := by kernel_rfl
def L20_0 : LH := ⟨[0, 1, 6], ⟨[.dat (.int .i64), .dat TB_, .ref 0], [.row TB_]⟩, 0⟩
noncomputable def b20_0 : Code := codeAt c20 [1, 1, 1, 0, 0, 0]
noncomputable def lq20_0 (call : CallFn E) (n m : Nat) (y : Int × LI_ × LL_) : Option ((Int × LI_ × LL_) ⊕ (LL_ × Int)) := loopAt (ctxOf E call n s20 Tryz.f20 hs20) b20_0 [0, 0, 1, 1, 1] L20_0 m y
theorem lp20_0 (call : CallFn E) (n m : Nat) (y : Int × LI_ × LL_) : lq20_0 call n (m + 1) y = F20_0 (g50 call) (g51 call) (g52 call)  (lq20_0 call n m) y := by kernel_rfl
noncomputable def q20 (call : CallFn E) (n : Nat) (a0 : Int) (a1 : LI_) : Option (LL_ × Int) := runHow E call n s20 (a0, a1) h20
theorem rr20 (call : CallFn E) (n : Nat) (a0 : Int) (a1 : LI_) : q20 call n a0 a1 = r20 (g50 call) (g51 call) (g52 call) (lq20_0 call n n) a0 a1 := by kernel_rfl
theorem gq20 (n : Nat) (a0 : Int) (a1 : LI_) : g20 (evalF E (n + 1)) a0 a1 = q20 (evalF E n) n a0 a1 := by kernel_rfl
noncomputable def q21 (call : CallFn E) (n : Nat) (a0 : LL_) (a1 : LL_) : Option (LI_ × LI_ × Int) := runHow E call n s21 (a0, a1) h21
theorem rr21 (call : CallFn E) (n : Nat) (a0 : LL_) (a1 : LL_) : q21 call n a0 a1 = r21 (g53 call) (g54 call) (g55 call)  a0 a1 := by kernel_rfl
theorem gq21 (n : Nat) (a0 : LL_) (a1 : LL_) : g21 (evalF E (n + 1)) a0 a1 = q21 (evalF E n) n a0 a1 := by kernel_rfl
def L22_0 : LH := ⟨[0, 1, 4, 5], ⟨[.dat TI_, .dat TI_, .dat (.int .i64), .dat (.int .i64)], []⟩, 0⟩
noncomputable def b22_0 : Code := codeAt c22 [1, 0, 0, 0]
noncomputable def lq22_0 (call : CallFn E) (n m : Nat) (y : LI_ × LI_ × Int × Int) : Option ((LI_ × LI_ × Int × Int) ⊕ (Int × Int)) := loopAt (ctxOf E call n s22 Tryz.f22 hs22) b22_0 [0, 0, 1] L22_0 m y
def L22_1 : LH := ⟨[0, 1, 4, 5], ⟨[.dat TI_, .dat TI_, .dat (.int .i64), .dat (.int .i64)], []⟩, 2⟩
noncomputable def b22_1 : Code := codeAt c22 [1, 1, 1, 0, 0, 0]
noncomputable def lq22_1 (call : CallFn E) (n m : Nat) (y : LI_ × LI_ × Int × Int) : Option ((LI_ × LI_ × Int × Int) ⊕ (Int × Int)) := loopAt (ctxOf E call n s22 Tryz.f22 hs22) b22_1 [0, 0, 1, 1, 1] L22_1 m y
theorem lp22_1 (call : CallFn E) (n m : Nat) (y : LI_ × LI_ × Int × Int) : lq22_1 call n (m + 1) y = F22_1   (lq22_1 call n m) y := by kernel_rfl
theorem lp22_0 (call : CallFn E) (n m : Nat) (y : LI_ × LI_ × Int × Int) : lq22_0 call n (m + 1) y = F22_0   (lq22_0 call n m) y := by kernel_rfl
noncomputable def q22 (call : CallFn E) (n : Nat) (a0 : LI_) (a1 : LI_) : Option (Int × Int) := runHow E call n s22 (a0, a1) h22
theorem rr22 (call : CallFn E) (n : Nat) (a0 : LI_) (a1 : LI_) : q22 call n a0 a1 = r22  (lq22_0 call n n) (lq22_1 call n n) a0 a1 := by kernel_rfl
theorem gq22 (n : Nat) (a0 : LI_) (a1 : LI_) : g22 (evalF E (n + 1)) a0 a1 = q22 (evalF E n) n a0 a1 := by kernel_rfl
noncomputable def q23 (call : CallFn E) (n : Nat) (a0 : LI_) (a1 : LI_) : Option (LI_ × LI_) := runHow E call n s23 (a0, a1) h23
theorem rr23 (call : CallFn E) (n : Nat) (a0 : LI_) (a1 : LI_) : q23 call n a0 a1 = r23 (g22 call) (g56 call)  a0 a1 := by kernel_rfl
theorem gq23 (n : Nat) (a0 : LI_) (a1 : LI_) : g23 (evalF E (n + 1)) a0 a1 = q23 (evalF E n) n a0 a1 := by kernel_rfl
noncomputable def q24 (call : CallFn E) (n : Nat) (a0 : Int) (a1 : Int) (a2 : Int) : Option (Int × Int × Bool) := runHow E call n s24 (a0, a1, a2) h24
theorem rr24 (call : CallFn E) (n : Nat) (a0 : Int) (a1 : Int) (a2 : Int) : q24 call n a0 a1 a2 = r24   a0 a1 a2 := by kernel_rfl
theorem gq24 (n : Nat) (a0 : Int) (a1 : Int) (a2 : Int) : g24 (evalF E (n + 1)) a0 a1 a2 = q24 (evalF E n) n a0 a1 a2 := by kernel_rfl
noncomputable def q26 (call : CallFn E) (n : Nat) (a0 : (Int × LI_)) (a1 : Int) : Option (Int) := runHow E call n s26 (a0, a1) h26
theorem rr26 (call : CallFn E) (n : Nat) (a0 : (Int × LI_)) (a1 : Int) : q26 call n a0 a1 = r26   a0 a1 := by kernel_rfl
theorem gq26 (n : Nat) (a0 : (Int × LI_)) (a1 : Int) : g26 (evalF E (n + 1)) a0 a1 = q26 (evalF E n) n a0 a1 := by kernel_rfl
def L27_0 : LH := ⟨[0, 1, 8, 10, 11], ⟨[.dat (.int .i64), .dat (.int .i64), .dat (.int .i64), .dat (.int .i64), .dat (.int .i64)], []⟩, 0⟩
noncomputable def b27_0 : Code := codeAt c27 [1, 1, 1, 1, 1, 0, 1, 0, 0]
noncomputable def lq27_0 (call : CallFn E) (n m : Nat) (y : Int × Int × Int × Int × Int) : Option ((Int × Int × Int × Int × Int) ⊕ (Int)) := loopAt (ctxOf E call n s27 Tryz.f27 hs27) b27_0 [0, 1, 0, 1, 1, 1, 1, 1] L27_0 m y
theorem lp27_0 (call : CallFn E) (n m : Nat) (y : Int × Int × Int × Int × Int) : lq27_0 call n (m + 1) y = F27_0 (g24 call) (g57 call)  (lq27_0 call n m) y := by kernel_rfl
noncomputable def q27 (call : CallFn E) (n : Nat) (a0 : Int) (a1 : Int) (a2 : Int) : Option (Int) := runHow E call n s27 (a0, a1, a2) h27
theorem rr27 (call : CallFn E) (n : Nat) (a0 : Int) (a1 : Int) (a2 : Int) : q27 call n a0 a1 a2 = r27 (g24 call) (g57 call) (lq27_0 call n n) a0 a1 a2 := by kernel_rfl
theorem gq27 (n : Nat) (a0 : Int) (a1 : Int) (a2 : Int) : g27 (evalF E (n + 1)) a0 a1 a2 = q27 (evalF E n) n a0 a1 a2 := by kernel_rfl
noncomputable def q28 (call : CallFn E) (n : Nat) (a0 : LI_) (a1 : LI_) : Option (Int) := runHow E call n s28 (a0, a1) h28
theorem rr28 (call : CallFn E) (n : Nat) (a0 : LI_) (a1 : LI_) : q28 call n a0 a1 = r28 (g58 call)  a0 a1 := by kernel_rfl
theorem gq28 (n : Nat) (a0 : LI_) (a1 : LI_) : g28 (evalF E (n + 1)) a0 a1 = q28 (evalF E n) n a0 a1 := by kernel_rfl
noncomputable def q29 (call : CallFn E) (n : Nat) (a0 : LL_) (a1 : LL_) : Option (LI_ × LI_ × Int) := runHow E call n s29 (a0, a1) h29
theorem rr29 (call : CallFn E) (n : Nat) (a0 : LL_) (a1 : LL_) : q29 call n a0 a1 = r29 (g59 call) (g60 call)  a0 a1 := by kernel_rfl
theorem gq29 (n : Nat) (a0 : LL_) (a1 : LL_) : g29 (evalF E (n + 1)) a0 a1 = q29 (evalF E n) n a0 a1 := by kernel_rfl
noncomputable def q30 (call : CallFn E) (n : Nat) (a0 : Int) (a1 : LI_) : Option (LL_) := runHow E call n s30 (a0, a1) h30
theorem rr30 (call : CallFn E) (n : Nat) (a0 : Int) (a1 : LI_) : q30 call n a0 a1 = r30 (g61 call)  a0 a1 := by kernel_rfl
theorem gq30 (n : Nat) (a0 : Int) (a1 : LI_) : g30 (evalF E (n + 1)) a0 a1 = q30 (evalF E n) n a0 a1 := by kernel_rfl
noncomputable def q50 (call : CallFn E) (n : Nat) (a0 : Int) : Option (Bool) := runHow E call n s50 a0 h50
theorem rr50 (call : CallFn E) (n : Nat) (a0 : Int) : q50 call n a0 = r50   a0 := by kernel_rfl
theorem gq50 (n : Nat) (a0 : Int) : g50 (evalF E (n + 1)) a0 = q50 (evalF E n) n a0 := by kernel_rfl
noncomputable def q51 (call : CallFn E) (n : Nat) (a0 : LI_) (a1 : Int) : Option (Int) := runHow E call n s51 (a0, a1) h51
theorem rr51 (call : CallFn E) (n : Nat) (a0 : LI_) (a1 : Int) : q51 call n a0 a1 = r51 (g91 call)  a0 a1 := by kernel_rfl
theorem gq51 (n : Nat) (a0 : LI_) (a1 : Int) : g51 (evalF E (n + 1)) a0 a1 = q51 (evalF E n) n a0 a1 := by kernel_rfl
def L53_0 : LH := ⟨[4, 16, 17, 18], ⟨[.ref 0, .ref 1, .dat (.int .i64), .dat (.int .i64)], [.row TB_, .row TB_]⟩, 0⟩
noncomputable def b53_0 : Code := codeAt c53 [1, 1, 1, 1, 1, 0, 1, 0, 0]
noncomputable def lq53_0 (call : CallFn E) (n m : Nat) (y : Int × Int × LL_ × LL_) : Option ((Int × Int × LL_ × LL_) ⊕ (LL_)) := loopAt (ctxOf E call n s53 Tryz.f53 hs53) b53_0 [0, 1, 0, 1, 1, 1, 1, 1] L53_0 m y
theorem lp53_0 (call : CallFn E) (n m : Nat) (y : Int × Int × LL_ × LL_) : lq53_0 call n (m + 1) y = F53_0 (g52 call) (g92 call) (g93 call) (g95 call)  (lq53_0 call n m) y := by kernel_rfl
noncomputable def q53 (call : CallFn E) (n : Nat) (a0 : LL_) : Option (LL_) := runHow E call n s53 a0 h53
theorem rr53 (call : CallFn E) (n : Nat) (a0 : LL_) : q53 call n a0 = r53 (g52 call) (g92 call) (g93 call) (g95 call) (lq53_0 call n n) a0 := by kernel_rfl
theorem gq53 (n : Nat) (a0 : LL_) : g53 (evalF E (n + 1)) a0 = q53 (evalF E n) n a0 := by kernel_rfl
def L54_0 : LH := ⟨[0, 3, 9, 10, 11], ⟨[.dat (.slice TT_), .dat (.int .i64), .dat (.slice TT_), .dat (.int .i64), .dat (.int .i64)], []⟩, 0⟩
noncomputable def b54_0 : Code := codeAt c54 [1, 1, 0, 1, 0, 0]
noncomputable def lq54_0 (call : CallFn E) (n m : Nat) (y : (List LL_) × Int × (List LL_) × Int × Int) : Option (((List LL_) × Int × (List LL_) × Int × Int) ⊕ (LL_)) := loopAt (ctxOf E call n s54 Tryz.f54 hs54) b54_0 [0, 1, 0, 1, 1] L54_0 m y
def L54_1 : LH := ⟨[6, 25, 26, 27], ⟨[.ref 0, .dat (.slice TT_), .dat (.int .i64), .dat (.int .i64)], [.row TB_]⟩, 2⟩
noncomputable def b54_1 : Code := codeAt c54 [1, 1, 1, 1, 0, 1, 0, 0]
noncomputable def lq54_1 (call : CallFn E) (n m : Nat) (y : (List LL_) × Int × Int × LL_) : Option (((List LL_) × Int × Int × LL_) ⊕ (LL_)) := loopAt (ctxOf E call n s54 Tryz.f54 hs54) b54_1 [0, 1, 0, 1, 1, 1, 1] L54_1 m y
theorem lp54_1 (call : CallFn E) (n m : Nat) (y : (List LL_) × Int × Int × LL_) : lq54_1 call n (m + 1) y = F54_1 (g97 call)  (lq54_1 call n m) y := by kernel_rfl
theorem lp54_0 (call : CallFn E) (n m : Nat) (y : (List LL_) × Int × (List LL_) × Int × Int) : lq54_0 call n (m + 1) y = F54_0 (g97 call)  (lq54_0 call n m) y := by kernel_rfl
noncomputable def q54 (call : CallFn E) (n : Nat) (a0 : (List LL_)) : Option (LL_) := runHow E call n s54 a0 h54
theorem rr54 (call : CallFn E) (n : Nat) (a0 : (List LL_)) : q54 call n a0 = r54 (g97 call) (lq54_0 call n n) (lq54_1 call n n) a0 := by kernel_rfl
theorem gq54 (n : Nat) (a0 : (List LL_)) : g54 (evalF E (n + 1)) a0 = q54 (evalF E n) n a0 := by kernel_rfl
def L55_0 : LH := ⟨[0, 6, 14, 15, 16], ⟨[.dat TT_, .ref 0, .dat TT_, .dat (.int .i64), .dat (.int .i64)], [.row (.int .i64)]⟩, 0⟩
noncomputable def b55_0 : Code := codeAt c55 [1, 1, 0, 1, 0, 0]
noncomputable def lq55_0 (call : CallFn E) (n m : Nat) (y : LL_ × LL_ × Int × Int × LI_) : Option ((LL_ × LL_ × Int × Int × LI_) ⊕ (LI_ × Bool)) := loopAt (ctxOf E call n s55 Tryz.f55 hs55) b55_0 [0, 1, 0, 1, 1] L55_0 m y
theorem lp55_0 (call : CallFn E) (n m : Nat) (y : LL_ × LL_ × Int × Int × LI_) : lq55_0 call n (m + 1) y = F55_0 (g98 call)  (lq55_0 call n m) y := by kernel_rfl
noncomputable def q55 (call : CallFn E) (n : Nat) (a0 : LL_) (a1 : LL_) : Option (LI_ × Bool) := runHow E call n s55 (a0, a1) h55
theorem rr55 (call : CallFn E) (n : Nat) (a0 : LL_) (a1 : LL_) : q55 call n a0 a1 = r55 (g98 call) (lq55_0 call n n) a0 a1 := by kernel_rfl
theorem gq55 (n : Nat) (a0 : LL_) (a1 : LL_) : g55 (evalF E (n + 1)) a0 a1 = q55 (evalF E n) n a0 a1 := by kernel_rfl
noncomputable def q57 (call : CallFn E) (n : Nat) (a0 : Int) : Option (Bool) := runHow E call n s57 a0 h57
theorem rr57 (call : CallFn E) (n : Nat) (a0 : Int) : q57 call n a0 = r57   a0 := by kernel_rfl
theorem gq57 (n : Nat) (a0 : Int) : g57 (evalF E (n + 1)) a0 = q57 (evalF E n) n a0 := by kernel_rfl
def L59_0 : LH := ⟨[0, 3, 4, 5], ⟨[.dat TT_, .ref 0, .dat (.int .i64), .dat (.int .i64)], [.row TB_]⟩, 2⟩
noncomputable def b59_0 : Code := codeAt c59 [1, 1, 0, 1, 0, 0, 1, 0, 0, 1, 0, 0, 0]
noncomputable def lq59_0 (call : CallFn E) (n m : Nat) (y : LL_ × Int × Int × LL_) : Option ((LL_ × Int × Int × LL_) ⊕ (LL_)) := loopAt (ctxOf E call n s59 Tryz.f59 hs59) b59_0 [0, 0, 1, 0, 0, 1, 0, 0, 1, 0, 1, 1] L59_0 m y
def L59_1 : LH := ⟨[0, 3, 4], ⟨[.dat TT_, .ref 0, .dat (.int .i64)], [.row TB_]⟩, 0⟩
noncomputable def b59_1 : Code := codeAt c59 [1, 1, 0, 1, 0, 0]
noncomputable def lq59_1 (call : CallFn E) (n m : Nat) (y : LL_ × Int × LL_) : Option ((LL_ × Int × LL_) ⊕ (LL_)) := loopAt (ctxOf E call n s59 Tryz.f59 hs59) b59_1 [0, 1, 0, 1, 1] L59_1 m y
theorem lp59_0 (call : CallFn E) (n m : Nat) (y : LL_ × Int × Int × LL_) : lq59_0 call n (m + 1) y = F59_0 (g99 call) (g100 call)  (lq59_0 call n m) y := by kernel_rfl
theorem lp59_1 (call : CallFn E) (n m : Nat) (y : LL_ × Int × LL_) : lq59_1 call n (m + 1) y = F59_1 (g99 call) (g100 call) (lq59_0 call n n) (lq59_1 call n m) y := by kernel_rfl
noncomputable def q59 (call : CallFn E) (n : Nat) (a0 : LL_) : Option (LL_) := runHow E call n s59 a0 h59
theorem rr59 (call : CallFn E) (n : Nat) (a0 : LL_) : q59 call n a0 = r59 (g99 call) (g100 call) (lq59_0 call n n) (lq59_1 call n n) a0 := by kernel_rfl
theorem gq59 (n : Nat) (a0 : LL_) : g59 (evalF E (n + 1)) a0 = q59 (evalF E n) n a0 := by kernel_rfl
def L60_0 : LH := ⟨[0, 1, 6, 7], ⟨[.dat TT_, .dat TT_, .ref 0, .dat (.int .i64)], [.row (.int .i64)]⟩, 0⟩
noncomputable def b60_0 : Code := codeAt c60 [1, 1, 0, 1, 0, 0]
noncomputable def lq60_0 (call : CallFn E) (n m : Nat) (y : LL_ × LL_ × Int × LI_) : Option ((LL_ × LL_ × Int × LI_) ⊕ (LI_ × Bool)) := loopAt (ctxOf E call n s60 Tryz.f60 hs60) b60_0 [0, 1, 0, 1, 1] L60_0 m y
theorem lp60_0 (call : CallFn E) (n m : Nat) (y : LL_ × LL_ × Int × LI_) : lq60_0 call n (m + 1) y = F60_0 (g101 call)  (lq60_0 call n m) y := by kernel_rfl
noncomputable def q60 (call : CallFn E) (n : Nat) (a0 : LL_) (a1 : LL_) : Option (LI_ × Bool) := runHow E call n s60 (a0, a1) h60
theorem rr60 (call : CallFn E) (n : Nat) (a0 : LL_) (a1 : LL_) : q60 call n a0 a1 = r60 (g101 call) (lq60_0 call n n) a0 a1 := by kernel_rfl
theorem gq60 (n : Nat) (a0 : LL_) (a1 : LL_) : g60 (evalF E (n + 1)) a0 a1 = q60 (evalF E n) n a0 a1 := by kernel_rfl
def L61_0 : LH := ⟨[0, 1, 6, 7, 8], ⟨[.dat (.int .i64), .dat TB_, .ref 0, .dat (.int .i64), .dat (.int .i64)], [.row TB_]⟩, 0⟩
noncomputable def b61_0 : Code := codeAt c61 [1, 1, 1, 1, 0, 1, 0, 0]
noncomputable def lq61_0 (call : CallFn E) (n m : Nat) (y : Int × LI_ × Int × Int × LL_) : Option ((Int × LI_ × Int × Int × LL_) ⊕ (LL_ × Int)) := loopAt (ctxOf E call n s61 Tryz.f61 hs61) b61_0 [0, 1, 0, 1, 1, 1, 1] L61_0 m y
theorem lp61_0 (call : CallFn E) (n m : Nat) (y : Int × LI_ × Int × Int × LL_) : lq61_0 call n (m + 1) y = F61_0   (lq61_0 call n m) y := by kernel_rfl
noncomputable def q61 (call : CallFn E) (n : Nat) (a0 : Int) (a1 : LI_) : Option (LL_ × Int) := runHow E call n s61 (a0, a1) h61
theorem rr61 (call : CallFn E) (n : Nat) (a0 : Int) (a1 : LI_) : q61 call n a0 a1 = r61  (lq61_0 call n n) a0 a1 := by kernel_rfl
theorem gq61 (n : Nat) (a0 : Int) (a1 : LI_) : g61 (evalF E (n + 1)) a0 a1 = q61 (evalF E n) n a0 a1 := by kernel_rfl
noncomputable def q94 (call : CallFn E) (n : Nat) (a0 : LI_) (a1 : LI_) : Option (Int) := runHow E call n s94 (a0, a1) h94
theorem rr94 (call : CallFn E) (n : Nat) (a0 : LI_) (a1 : LI_) : q94 call n a0 a1 = r94 (g130 call)  a0 a1 := by kernel_rfl
theorem gq94 (n : Nat) (a0 : LI_) (a1 : LI_) : g94 (evalF E (n + 1)) a0 a1 = q94 (evalF E n) n a0 a1 := by kernel_rfl
noncomputable def q98 (call : CallFn E) (n : Nat) (a0 : LL_) (a1 : LI_) : Option (Int × Bool) := runHow E call n s98 (a0, a1) h98
theorem rr98 (call : CallFn E) (n : Nat) (a0 : LL_) (a1 : LI_) : q98 call n a0 a1 = r98 (g131 call)  a0 a1 := by kernel_rfl
theorem gq98 (n : Nat) (a0 : LL_) (a1 : LI_) : g98 (evalF E (n + 1)) a0 a1 = q98 (evalF E n) n a0 a1 := by kernel_rfl
def L99_0 : LH := ⟨[0, 1, 5], ⟨[.dat TB_, .dat TB_, .dat (.int .i64)], []⟩, 0⟩
noncomputable def b99_0 : Code := codeAt c99 [1, 0, 1, 0, 0]
noncomputable def lq99_0 (call : CallFn E) (n m : Nat) (y : LI_ × LI_ × Int) : Option ((LI_ × LI_ × Int) ⊕ (Bool)) := loopAt (ctxOf E call n s99 Tryz.f99 hs99) b99_0 [0, 1, 0, 1] L99_0 m y
theorem lp99_0 (call : CallFn E) (n m : Nat) (y : LI_ × LI_ × Int) : lq99_0 call n (m + 1) y = F99_0   (lq99_0 call n m) y := by kernel_rfl
noncomputable def q99 (call : CallFn E) (n : Nat) (a0 : LI_) (a1 : LI_) : Option (Bool) := runHow E call n s99 (a0, a1) h99
theorem rr99 (call : CallFn E) (n : Nat) (a0 : LI_) (a1 : LI_) : q99 call n a0 a1 = r99  (lq99_0 call n n) a0 a1 := by kernel_rfl
theorem gq99 (n : Nat) (a0 : LI_) (a1 : LI_) : g99 (evalF E (n + 1)) a0 a1 = q99 (evalF E n) n a0 a1 := by kernel_rfl
noncomputable def q100 (call : CallFn E) (n : Nat) (a0 : LI_) (a1 : LI_) : Option (Bool) := runHow E call n s100 (a0, a1) h100
theorem rr100 (call : CallFn E) (n : Nat) (a0 : LI_) (a1 : LI_) : q100 call n a0 a1 = r100   a0 a1 := by kernel_rfl
theorem gq100 (n : Nat) (a0 : LI_) (a1 : LI_) : g100 (evalF E (n + 1)) a0 a1 = q100 (evalF E n) n a0 a1 := by kernel_rfl
def L101_0 : LH := ⟨[0, 1, 6], ⟨[.dat TT_, .dat TB_, .dat (.int .i64)], []⟩, 0⟩
noncomputable def b101_0 : Code := codeAt c101 [1, 0, 1, 0, 0]
noncomputable def lq101_0 (call : CallFn E) (n m : Nat) (y : LL_ × LI_ × Int) : Option ((LL_ × LI_ × Int) ⊕ (Int × Bool)) := loopAt (ctxOf E call n s101 Tryz.f101 hs101) b101_0 [0, 1, 0, 1] L101_0 m y
theorem lp101_0 (call : CallFn E) (n m : Nat) (y : LL_ × LI_ × Int) : lq101_0 call n (m + 1) y = F101_0 (g100 call)  (lq101_0 call n m) y := by kernel_rfl
noncomputable def q101 (call : CallFn E) (n : Nat) (a0 : LL_) (a1 : LI_) : Option (Int × Bool) := runHow E call n s101 (a0, a1) h101
theorem rr101 (call : CallFn E) (n : Nat) (a0 : LL_) (a1 : LI_) : q101 call n a0 a1 = r101 (g100 call) (lq101_0 call n n) a0 a1 := by kernel_rfl
theorem gq101 (n : Nat) (a0 : LL_) (a1 : LI_) : g101 (evalF E (n + 1)) a0 a1 = q101 (evalF E n) n a0 a1 := by kernel_rfl
def L131_0 : LH := ⟨[0, 1, 2, 8, 9, 10], ⟨[.dat TT_, .dat TB_, .fnc 94 [], .dat (.int .i64), .dat (.int .i64), .dat (.int .i64)], []⟩, 0⟩
noncomputable def b131_0 : Code := codeAt c131 [1, 1, 1, 0, 0, 0]
noncomputable def lq131_0 (call : CallFn E) (n m : Nat) (y : LL_ × LI_ × Int × Int × Int) : Option ((LL_ × LI_ × Int × Int × Int) ⊕ (Int × Bool)) := loopAt (ctxOf E call n s131 Tryz.f131 hs131) b131_0 [0, 0, 1, 1, 1] L131_0 m y
theorem lp131_0 (call : CallFn E) (n m : Nat) (y : LL_ × LI_ × Int × Int × Int) : lq131_0 call n (m + 1) y = F131_0 (g94 call)  (lq131_0 call n m) y := by kernel_rfl
noncomputable def q131 (call : CallFn E) (n : Nat) (a0 : LL_) (a1 : LI_) : Option (Int × Bool) := runHow E call n s131 (a0, a1) h131
theorem rr131 (call : CallFn E) (n : Nat) (a0 : LL_) (a1 : LI_) : q131 call n a0 a1 = r131 (g94 call) (lq131_0 call n n) a0 a1 := by kernel_rfl
theorem gq131 (n : Nat) (a0 : LL_) (a1 : LI_) : g131 (evalF E (n + 1)) a0 a1 = q131 (evalF E n) n a0 a1 := by kernel_rfl
noncomputable def R4 : Nat → Unit → Option (Bool) := fun n _ => evalF E n 4 ()
theorem e4 (n : Nat) : g4 (evalF E n) = R4 n := rfl
def R50 : Nat → Int → Option (Bool)
  | 0, _ => none
  | n + 1, a0 => r50   a0
theorem u50 (n : Nat) (a0 : Int) : R50 (n + 1) a0 = r50   a0 := rfl
theorem e50 : ∀ (n : Nat), g50 (evalF E n) = R50 n
  | 0 => by funext a0; rfl
  | n + 1 => by
    funext a0
    rw [gq50, rr50]
    rfl
def R91 : Nat → LI_ → Int → Option (Int)
  | 0, _, _ => none
  | _ + 1, a0, a1 => BytesX.indexB (a0, a1)
theorem e91 (n : Nat) : g91 (evalF E n) = R91 n := by cases n <;> rfl
def R51 : Nat → LI_ → Int → Option (Int)
  | 0, _, _ => none
  | n + 1, a0, a1 => r51 (R91 n)  a0 a1
theorem u51 (n : Nat) (a0 : LI_) (a1 : Int) : R51 (n + 1) a0 a1 = r51 (R91 n)  a0 a1 := rfl
theorem e51 : ∀ (n : Nat), g51 (evalF E n) = R51 n
  | 0 => by funext a0 a1; rfl
  | n + 1 => by
    funext a0 a1
    rw [gq51, rr51]
    simp only [e91 n]
    rfl
def R52 : Nat → LI_ → Option (LI_)
  | 0, _ => none
  | _ + 1, a0 => BytesX.cloneB a0
theorem e52 (n : Nat) : g52 (evalF E n) = R52 n := by cases n <;> rfl
def R20 : Nat → Int → LI_ → Option (LL_ × Int)
  | 0, _, _ => none
  | n + 1, a0, a1 => r20 (R50 n) (R51 n) (R52 n) (iter (F20_0 (R50 n) (R51 n) (R52 n) ) n) a0 a1
def J20_0 (n m : Nat) : (Int × LI_ × LL_) → Option ((Int × LI_ × LL_) ⊕ (LL_ × Int)) := iter (F20_0 (R50 n) (R51 n) (R52 n) ) m
theorem j20_0 (n m : Nat) (x : Int × LI_ × LL_) : J20_0 n (m + 1) x = F20_0 (R50 n) (R51 n) (R52 n)  (J20_0 n m) x := rfl
theorem u20 (n : Nat) (a0 : Int) (a1 : LI_) : R20 (n + 1) a0 a1 = r20 (R50 n) (R51 n) (R52 n) (J20_0 n n) a0 a1 := rfl
theorem e20 : ∀ (n : Nat), g20 (evalF E n) = R20 n
  | 0 => by funext a0 a1; rfl
  | n + 1 => by
    have l0 : lq20_0 (evalF E n) n n = (iter (F20_0 (R50 n) (R51 n) (R52 n) ) n) := iter_of (g := lq20_0 (evalF E n) n) rfl (fun m y => by rw [lp20_0]; simp only [e50 n, e51 n, e52 n]) n
    funext a0 a1
    rw [gq20, rr20]
    simp only [e50 n, e51 n, e52 n, l0]
    rfl
def R92 : Nat → LL_ → Option (LL_)
  | 0, _ => none
  | _ + 1, a0 => NameX.cloneR a0
theorem e92 (n : Nat) : g92 (evalF E n) = R92 n := by cases n <;> rfl
def R93 : Nat → LL_ → Option (LL_)
  | 0, _ => none
  | _ + 1, a0 => NameX.sortR a0
theorem e93 (n : Nat) : g93 (evalF E n) = R93 n := by cases n <;> rfl
def R95 : Nat → LL_ → Option (LL_)
  | 0, _ => none
  | _ + 1, a0 => NameX.compactR a0
theorem e95 (n : Nat) : g95 (evalF E n) = R95 n := by cases n <;> rfl
def R53 : Nat → LL_ → Option (LL_)
  | 0, _ => none
  | n + 1, a0 => r53 (R52 n) (R92 n) (R93 n) (R95 n) (iter (F53_0 (R52 n) (R92 n) (R93 n) (R95 n) ) n) a0
def J53_0 (n m : Nat) : (Int × Int × LL_ × LL_) → Option ((Int × Int × LL_ × LL_) ⊕ (LL_)) := iter (F53_0 (R52 n) (R92 n) (R93 n) (R95 n) ) m
theorem j53_0 (n m : Nat) (x : Int × Int × LL_ × LL_) : J53_0 n (m + 1) x = F53_0 (R52 n) (R92 n) (R93 n) (R95 n)  (J53_0 n m) x := rfl
theorem u53 (n : Nat) (a0 : LL_) : R53 (n + 1) a0 = r53 (R52 n) (R92 n) (R93 n) (R95 n) (J53_0 n n) a0 := rfl
theorem e53 : ∀ (n : Nat), g53 (evalF E n) = R53 n
  | 0 => by funext a0; rfl
  | n + 1 => by
    have l0 : lq53_0 (evalF E n) n n = (iter (F53_0 (R52 n) (R92 n) (R93 n) (R95 n) ) n) := iter_of (g := lq53_0 (evalF E n) n) rfl (fun m y => by rw [lp53_0]; simp only [e52 n, e92 n, e93 n, e95 n]) n
    funext a0
    rw [gq53, rr53]
    simp only [e52 n, e92 n, e93 n, e95 n, l0]
    rfl
def R97 : Nat → Int → LL_ → Option (LL_)
  | 0, _, _ => none
  | _ + 1, a0, a1 => NameX.growR (a0, a1)
theorem e97 (n : Nat) : g97 (evalF E n) = R97 n := by cases n <;> rfl
def R54 : Nat → (List LL_) → Option (LL_)
  | 0, _ => none
  | n + 1, a0 => r54 (R97 n) (iter (F54_0 (R97 n) ) n) (iter (F54_1 (R97 n) ) n) a0
def J54_1 (n m : Nat) : ((List LL_) × Int × Int × LL_) → Option (((List LL_) × Int × Int × LL_) ⊕ (LL_)) := iter (F54_1 (R97 n) ) m
theorem j54_1 (n m : Nat) (x : (List LL_) × Int × Int × LL_) : J54_1 n (m + 1) x = F54_1 (R97 n)  (J54_1 n m) x := rfl
def J54_0 (n m : Nat) : ((List LL_) × Int × (List LL_) × Int × Int) → Option (((List LL_) × Int × (List LL_) × Int × Int) ⊕ (LL_)) := iter (F54_0 (R97 n) ) m
theorem j54_0 (n m : Nat) (x : (List LL_) × Int × (List LL_) × Int × Int) : J54_0 n (m + 1) x = F54_0 (R97 n)  (J54_0 n m) x := rfl
theorem u54 (n : Nat) (a0 : (List LL_)) : R54 (n + 1) a0 = r54 (R97 n) (J54_0 n n) (J54_1 n n) a0 := rfl
theorem e54 : ∀ (n : Nat), g54 (evalF E n) = R54 n
  | 0 => by funext a0; rfl
  | n + 1 => by
    have l1 : lq54_1 (evalF E n) n n = (iter (F54_1 (R97 n) ) n) := iter_of (g := lq54_1 (evalF E n) n) rfl (fun m y => by rw [lp54_1]; simp only [e97 n]) n
    have l0 : lq54_0 (evalF E n) n n = (iter (F54_0 (R97 n) ) n) := iter_of (g := lq54_0 (evalF E n) n) rfl (fun m y => by rw [lp54_0]; simp only [e97 n]) n
    funext a0
    rw [gq54, rr54]
    simp only [e97 n, l0, l1]
    rfl
def R130 : Nat → LI_ → LI_ → Option (Int)
  | 0, _, _ => none
  | _ + 1, a0, a1 => NameX.cmpB (a0, a1)
theorem e130 (n : Nat) : g130 (evalF E n) = R130 n := by cases n <;> rfl
def R94 : Nat → LI_ → LI_ → Option (Int)
  | 0, _, _ => none
  | n + 1, a0, a1 => r94 (R130 n)  a0 a1
theorem u94 (n : Nat) (a0 : LI_) (a1 : LI_) : R94 (n + 1) a0 a1 = r94 (R130 n)  a0 a1 := rfl
theorem e94 : ∀ (n : Nat), g94 (evalF E n) = R94 n
  | 0 => by funext a0 a1; rfl
  | n + 1 => by
    funext a0 a1
    rw [gq94, rr94]
    simp only [e130 n]
    rfl
def R131 : Nat → LL_ → LI_ → Option (Int × Bool)
  | 0, _, _ => none
  | n + 1, a0, a1 => r131 (R94 n) (iter (F131_0 (R94 n) ) n) a0 a1
def J131_0 (n m : Nat) : (LL_ × LI_ × Int × Int × Int) → Option ((LL_ × LI_ × Int × Int × Int) ⊕ (Int × Bool)) := iter (F131_0 (R94 n) ) m
theorem j131_0 (n m : Nat) (x : LL_ × LI_ × Int × Int × Int) : J131_0 n (m + 1) x = F131_0 (R94 n)  (J131_0 n m) x := rfl
theorem u131 (n : Nat) (a0 : LL_) (a1 : LI_) : R131 (n + 1) a0 a1 = r131 (R94 n) (J131_0 n n) a0 a1 := rfl
theorem e131 : ∀ (n : Nat), g131 (evalF E n) = R131 n
  | 0 => by funext a0 a1; rfl
  | n + 1 => by
    have l0 : lq131_0 (evalF E n) n n = (iter (F131_0 (R94 n) ) n) := iter_of (g := lq131_0 (evalF E n) n) rfl (fun m y => by rw [lp131_0]; simp only [e94 n]) n
    funext a0 a1
    rw [gq131, rr131]
    simp only [e94 n, l0]
    rfl
def R98 : Nat → LL_ → LI_ → Option (Int × Bool)
  | 0, _, _ => none
  | n + 1, a0, a1 => r98 (R131 n)  a0 a1
theorem u98 (n : Nat) (a0 : LL_) (a1 : LI_) : R98 (n + 1) a0 a1 = r98 (R131 n)  a0 a1 := rfl
theorem e98 : ∀ (n : Nat), g98 (evalF E n) = R98 n
  | 0 => by funext a0 a1; rfl
  | n + 1 => by
    funext a0 a1
    rw [gq98, rr98]
    simp only [e131 n]
    rfl
def R55 : Nat → LL_ → LL_ → Option (LI_ × Bool)
  | 0, _, _ => none
  | n + 1, a0, a1 => r55 (R98 n) (iter (F55_0 (R98 n) ) n) a0 a1
def J55_0 (n m : Nat) : (LL_ × LL_ × Int × Int × LI_) → Option ((LL_ × LL_ × Int × Int × LI_) ⊕ (LI_ × Bool)) := iter (F55_0 (R98 n) ) m
theorem j55_0 (n m : Nat) (x : LL_ × LL_ × Int × Int × LI_) : J55_0 n (m + 1) x = F55_0 (R98 n)  (J55_0 n m) x := rfl
theorem u55 (n : Nat) (a0 : LL_) (a1 : LL_) : R55 (n + 1) a0 a1 = r55 (R98 n) (J55_0 n n) a0 a1 := rfl
theorem e55 : ∀ (n : Nat), g55 (evalF E n) = R55 n
  | 0 => by funext a0 a1; rfl
  | n + 1 => by
    have l0 : lq55_0 (evalF E n) n n = (iter (F55_0 (R98 n) ) n) := iter_of (g := lq55_0 (evalF E n) n) rfl (fun m y => by rw [lp55_0]; simp only [e98 n]) n
    funext a0 a1
    rw [gq55, rr55]
    simp only [e98 n, l0]
    rfl
def R21 : Nat → LL_ → LL_ → Option (LI_ × LI_ × Int)
  | 0, _, _ => none
  | n + 1, a0, a1 => r21 (R53 n) (R54 n) (R55 n)  a0 a1
theorem u21 (n : Nat) (a0 : LL_) (a1 : LL_) : R21 (n + 1) a0 a1 = r21 (R53 n) (R54 n) (R55 n)  a0 a1 := rfl
theorem e21 : ∀ (n : Nat), g21 (evalF E n) = R21 n
  | 0 => by funext a0 a1; rfl
  | n + 1 => by
    funext a0 a1
    rw [gq21, rr21]
    simp only [e53 n, e54 n, e55 n]
    rfl
def R22 : Nat → LI_ → LI_ → Option (Int × Int)
  | 0, _, _ => none
  | n + 1, a0, a1 => r22  (iter (F22_0  ) n) (iter (F22_1  ) n) a0 a1
def J22_1 (n m : Nat) : (LI_ × LI_ × Int × Int) → Option ((LI_ × LI_ × Int × Int) ⊕ (Int × Int)) := iter (F22_1  ) m
theorem j22_1 (n m : Nat) (x : LI_ × LI_ × Int × Int) : J22_1 n (m + 1) x = F22_1   (J22_1 n m) x := rfl
def J22_0 (n m : Nat) : (LI_ × LI_ × Int × Int) → Option ((LI_ × LI_ × Int × Int) ⊕ (Int × Int)) := iter (F22_0  ) m
theorem j22_0 (n m : Nat) (x : LI_ × LI_ × Int × Int) : J22_0 n (m + 1) x = F22_0   (J22_0 n m) x := rfl
theorem u22 (n : Nat) (a0 : LI_) (a1 : LI_) : R22 (n + 1) a0 a1 = r22  (J22_0 n n) (J22_1 n n) a0 a1 := rfl
theorem e22 : ∀ (n : Nat), g22 (evalF E n) = R22 n
  | 0 => by funext a0 a1; rfl
  | n + 1 => by
    have l1 : lq22_1 (evalF E n) n n = (iter (F22_1  ) n) := iter_of (g := lq22_1 (evalF E n) n) rfl (fun m y => by rw [lp22_1]) n
    have l0 : lq22_0 (evalF E n) n n = (iter (F22_0  ) n) := iter_of (g := lq22_0 (evalF E n) n) rfl (fun m y => by rw [lp22_0]) n
    funext a0 a1
    rw [gq22, rr22]
    simp only [l0, l1]
    rfl
def R56 : Nat → LI_ → Option (LI_)
  | 0, _ => none
  | _ + 1, a0 => PortX.cloneI a0
theorem e56 (n : Nat) : g56 (evalF E n) = R56 n := by cases n <;> rfl
def R23 : Nat → LI_ → LI_ → Option (LI_ × LI_)
  | 0, _, _ => none
  | n + 1, a0, a1 => r23 (R22 n) (R56 n)  a0 a1
theorem u23 (n : Nat) (a0 : LI_) (a1 : LI_) : R23 (n + 1) a0 a1 = r23 (R22 n) (R56 n)  a0 a1 := rfl
theorem e23 : ∀ (n : Nat), g23 (evalF E n) = R23 n
  | 0 => by funext a0 a1; rfl
  | n + 1 => by
    funext a0 a1
    rw [gq23, rr23]
    simp only [e22 n, e56 n]
    rfl
def R10 : Nat → Int → LI_ → LI_ → Option ((LL_ × (LL_ × (LI_ × (LI_ × (Int × (Int × (LI_ × LI_))))))) × Int)
  | 0, _, _, _ => none
  | n + 1, a0, a1, a2 => r10 (R20 n) (R21 n) (R22 n) (R23 n)  a0 a1 a2
theorem u10 (n : Nat) (a0 : Int) (a1 : LI_) (a2 : LI_) : R10 (n + 1) a0 a1 a2 = r10 (R20 n) (R21 n) (R22 n) (R23 n)  a0 a1 a2 := rfl
theorem e10 : ∀ (n : Nat), g10 (evalF E n) = R10 n
  | 0 => by funext a0 a1 a2; rfl
  | n + 1 => by
    funext a0 a1 a2
    rw [gq10, rr10]
    simp only [e20 n, e21 n, e22 n, e23 n]
    rfl
def R24 : Nat → Int → Int → Int → Option (Int × Int × Bool)
  | 0, _, _, _ => none
  | n + 1, a0, a1, a2 => r24   a0 a1 a2
theorem u24 (n : Nat) (a0 : Int) (a1 : Int) (a2 : Int) : R24 (n + 1) a0 a1 a2 = r24   a0 a1 a2 := rfl
theorem e24 : ∀ (n : Nat), g24 (evalF E n) = R24 n
  | 0 => by funext a0 a1 a2; rfl
  | n + 1 => by
    funext a0 a1 a2
    rw [gq24, rr24]
    rfl
def R25 : Nat → LI_ → LI_ → Int → Int → Int → (Int × LI_) → Option ((Int × LI_))
  | 0, _, _, _, _, _, _ => none
  | _ + 1, a0, a1, a2, a3, a4, a5 => PortX.nextB (a0, a1, a2, a3, a4, a5)
theorem e25 (n : Nat) : g25 (evalF E n) = R25 n := by cases n <;> rfl
def R26 : Nat → (Int × LI_) → Int → Option (Int)
  | 0, _, _ => none
  | n + 1, a0, a1 => r26   a0 a1
theorem u26 (n : Nat) (a0 : (Int × LI_)) (a1 : Int) : R26 (n + 1) a0 a1 = r26   a0 a1 := rfl
theorem e26 : ∀ (n : Nat), g26 (evalF E n) = R26 n
  | 0 => by funext a0 a1; rfl
  | n + 1 => by
    funext a0 a1
    rw [gq26, rr26]
    rfl
def R57 : Nat → Int → Option (Bool)
  | 0, _ => none
  | n + 1, a0 => r57   a0
theorem u57 (n : Nat) (a0 : Int) : R57 (n + 1) a0 = r57   a0 := rfl
theorem e57 : ∀ (n : Nat), g57 (evalF E n) = R57 n
  | 0 => by funext a0; rfl
  | n + 1 => by
    funext a0
    rw [gq57, rr57]
    rfl
def R27 : Nat → Int → Int → Int → Option (Int)
  | 0, _, _, _ => none
  | n + 1, a0, a1, a2 => r27 (R24 n) (R57 n) (iter (F27_0 (R24 n) (R57 n) ) n) a0 a1 a2
def J27_0 (n m : Nat) : (Int × Int × Int × Int × Int) → Option ((Int × Int × Int × Int × Int) ⊕ (Int)) := iter (F27_0 (R24 n) (R57 n) ) m
theorem j27_0 (n m : Nat) (x : Int × Int × Int × Int × Int) : J27_0 n (m + 1) x = F27_0 (R24 n) (R57 n)  (J27_0 n m) x := rfl
theorem u27 (n : Nat) (a0 : Int) (a1 : Int) (a2 : Int) : R27 (n + 1) a0 a1 a2 = r27 (R24 n) (R57 n) (J27_0 n n) a0 a1 a2 := rfl
theorem e27 : ∀ (n : Nat), g27 (evalF E n) = R27 n
  | 0 => by funext a0 a1 a2; rfl
  | n + 1 => by
    have l0 : lq27_0 (evalF E n) n n = (iter (F27_0 (R24 n) (R57 n) ) n) := iter_of (g := lq27_0 (evalF E n) n) rfl (fun m y => by rw [lp27_0]; simp only [e24 n, e57 n]) n
    funext a0 a1 a2
    rw [gq27, rr27]
    simp only [e24 n, e57 n, l0]
    rfl
def R11 : Nat → LI_ → LI_ → Int → Option (Int × Int × Int)
  | 0, _, _, _ => none
  | n + 1, a0, a1, a2 => r11 (R24 n) (R25 n) (R26 n) (R27 n) (iter (F11_0 (R24 n) (R25 n) (R26 n) (R27 n) ) n) a0 a1 a2
def J11_0 (n m : Nat) : (LI_ × LI_ × Int × Int × Int × Int × Int × (Int × LI_)) → Option ((LI_ × LI_ × Int × Int × Int × Int × Int × (Int × LI_)) ⊕ (Int × Int × Int)) := iter (F11_0 (R24 n) (R25 n) (R26 n) (R27 n) ) m
theorem j11_0 (n m : Nat) (x : LI_ × LI_ × Int × Int × Int × Int × Int × (Int × LI_)) : J11_0 n (m + 1) x = F11_0 (R24 n) (R25 n) (R26 n) (R27 n)  (J11_0 n m) x := rfl
theorem u11 (n : Nat) (a0 : LI_) (a1 : LI_) (a2 : Int) : R11 (n + 1) a0 a1 a2 = r11 (R24 n) (R25 n) (R26 n) (R27 n) (J11_0 n n) a0 a1 a2 := rfl
theorem e11 : ∀ (n : Nat), g11 (evalF E n) = R11 n
  | 0 => by funext a0 a1 a2; rfl
  | n + 1 => by
    have l0 : lq11_0 (evalF E n) n n = (iter (F11_0 (R24 n) (R25 n) (R26 n) (R27 n) ) n) := iter_of (g := lq11_0 (evalF E n) n) rfl (fun m y => by rw [lp11_0]; simp only [e24 n, e25 n, e26 n, e27 n]) n
    funext a0 a1 a2
    rw [gq11, rr11]
    simp only [e24 n, e25 n, e26 n, e27 n, l0]
    rfl
def R5 : Nat → Int → LI_ → LI_ → Int → Option (Int × Int)
  | 0, _, _, _, _ => none
  | n + 1, a0, a1, a2, a3 => r5 (R10 n) (R11 n)  a0 a1 a2 a3
theorem u5 (n : Nat) (a0 : Int) (a1 : LI_) (a2 : LI_) (a3 : Int) : R5 (n + 1) a0 a1 a2 a3 = r5 (R10 n) (R11 n)  a0 a1 a2 a3 := rfl
theorem e5 : ∀ (n : Nat), g5 (evalF E n) = R5 n
  | 0 => by funext a0 a1 a2 a3; rfl
  | n + 1 => by
    funext a0 a1 a2 a3
    rw [gq5, rr5]
    simp only [e10 n, e11 n]
    rfl
def R12 : Nat → Int → Option (ByteArray)
  | 0, _ => none
  | n + 1, a0 => r12   a0
theorem u12 (n : Nat) (a0 : Int) : R12 (n + 1) a0 = r12   a0 := rfl
theorem e12 : ∀ (n : Nat), g12 (evalF E n) = R12 n
  | 0 => by funext a0; rfl
  | n + 1 => by
    funext a0
    rw [gq12, rr12]
    rfl
def R58 : Nat → LI_ → LI_ → Option (LL_)
  | 0, _, _ => none
  | _ + 1, a0, a1 => GridX.behS (a0, a1)
theorem e58 (n : Nat) : g58 (evalF E n) = R58 n := by cases n <;> rfl
def R28 : Nat → LI_ → LI_ → Option (Int)
  | 0, _, _ => none
  | n + 1, a0, a1 => r28 (R58 n)  a0 a1
theorem u28 (n : Nat) (a0 : LI_) (a1 : LI_) : R28 (n + 1) a0 a1 = r28 (R58 n)  a0 a1 := rfl
theorem e28 : ∀ (n : Nat), g28 (evalF E n) = R28 n
  | 0 => by funext a0 a1; rfl
  | n + 1 => by
    funext a0 a1
    rw [gq28, rr28]
    simp only [e58 n]
    rfl
def R13 : Nat → LI_ → LI_ → Option (Int)
  | 0, _, _ => none
  | n + 1, a0, a1 => r13 (R28 n)  a0 a1
theorem u13 (n : Nat) (a0 : LI_) (a1 : LI_) : R13 (n + 1) a0 a1 = r13 (R28 n)  a0 a1 := rfl
theorem e13 : ∀ (n : Nat), g13 (evalF E n) = R13 n
  | 0 => by funext a0 a1; rfl
  | n + 1 => by
    funext a0 a1
    rw [gq13, rr13]
    simp only [e28 n]
    rfl
def R99 : Nat → LI_ → LI_ → Option (Bool)
  | 0, _, _ => none
  | n + 1, a0, a1 => r99  (iter (F99_0  ) n) a0 a1
def J99_0 (n m : Nat) : (LI_ × LI_ × Int) → Option ((LI_ × LI_ × Int) ⊕ (Bool)) := iter (F99_0  ) m
theorem j99_0 (n m : Nat) (x : LI_ × LI_ × Int) : J99_0 n (m + 1) x = F99_0   (J99_0 n m) x := rfl
theorem u99 (n : Nat) (a0 : LI_) (a1 : LI_) : R99 (n + 1) a0 a1 = r99  (J99_0 n n) a0 a1 := rfl
theorem e99 : ∀ (n : Nat), g99 (evalF E n) = R99 n
  | 0 => by funext a0 a1; rfl
  | n + 1 => by
    have l0 : lq99_0 (evalF E n) n n = (iter (F99_0  ) n) := iter_of (g := lq99_0 (evalF E n) n) rfl (fun m y => by rw [lp99_0]) n
    funext a0 a1
    rw [gq99, rr99]
    simp only [l0]
    rfl
def R100 : Nat → LI_ → LI_ → Option (Bool)
  | 0, _, _ => none
  | n + 1, a0, a1 => r100   a0 a1
theorem u100 (n : Nat) (a0 : LI_) (a1 : LI_) : R100 (n + 1) a0 a1 = r100   a0 a1 := rfl
theorem e100 : ∀ (n : Nat), g100 (evalF E n) = R100 n
  | 0 => by funext a0 a1; rfl
  | n + 1 => by
    funext a0 a1
    rw [gq100, rr100]
    rfl
def R59 : Nat → LL_ → Option (LL_)
  | 0, _ => none
  | n + 1, a0 => r59 (R99 n) (R100 n) (iter (F59_0 (R99 n) (R100 n) ) n) (iter (F59_1 (R99 n) (R100 n) (iter (F59_0 (R99 n) (R100 n) ) n)) n) a0
def J59_0 (n m : Nat) : (LL_ × Int × Int × LL_) → Option ((LL_ × Int × Int × LL_) ⊕ (LL_)) := iter (F59_0 (R99 n) (R100 n) ) m
theorem j59_0 (n m : Nat) (x : LL_ × Int × Int × LL_) : J59_0 n (m + 1) x = F59_0 (R99 n) (R100 n)  (J59_0 n m) x := rfl
def J59_1 (n m : Nat) : (LL_ × Int × LL_) → Option ((LL_ × Int × LL_) ⊕ (LL_)) := iter (F59_1 (R99 n) (R100 n) (J59_0 n n)) m
theorem j59_1 (n m : Nat) (x : LL_ × Int × LL_) : J59_1 n (m + 1) x = F59_1 (R99 n) (R100 n) (J59_0 n n) (J59_1 n m) x := rfl
theorem u59 (n : Nat) (a0 : LL_) : R59 (n + 1) a0 = r59 (R99 n) (R100 n) (J59_0 n n) (J59_1 n n) a0 := rfl
theorem e59 : ∀ (n : Nat), g59 (evalF E n) = R59 n
  | 0 => by funext a0; rfl
  | n + 1 => by
    have l0 : lq59_0 (evalF E n) n n = (iter (F59_0 (R99 n) (R100 n) ) n) := iter_of (g := lq59_0 (evalF E n) n) rfl (fun m y => by rw [lp59_0]; simp only [e99 n, e100 n]) n
    have l1 : lq59_1 (evalF E n) n n = (iter (F59_1 (R99 n) (R100 n) (iter (F59_0 (R99 n) (R100 n) ) n)) n) := iter_of (g := lq59_1 (evalF E n) n) rfl (fun m y => by rw [lp59_1]; simp only [e99 n, e100 n, l0]) n
    funext a0
    rw [gq59, rr59]
    simp only [e99 n, e100 n, l0, l1]
    rfl
def R101 : Nat → LL_ → LI_ → Option (Int × Bool)
  | 0, _, _ => none
  | n + 1, a0, a1 => r101 (R100 n) (iter (F101_0 (R100 n) ) n) a0 a1
def J101_0 (n m : Nat) : (LL_ × LI_ × Int) → Option ((LL_ × LI_ × Int) ⊕ (Int × Bool)) := iter (F101_0 (R100 n) ) m
theorem j101_0 (n m : Nat) (x : LL_ × LI_ × Int) : J101_0 n (m + 1) x = F101_0 (R100 n)  (J101_0 n m) x := rfl
theorem u101 (n : Nat) (a0 : LL_) (a1 : LI_) : R101 (n + 1) a0 a1 = r101 (R100 n) (J101_0 n n) a0 a1 := rfl
theorem e101 : ∀ (n : Nat), g101 (evalF E n) = R101 n
  | 0 => by funext a0 a1; rfl
  | n + 1 => by
    have l0 : lq101_0 (evalF E n) n n = (iter (F101_0 (R100 n) ) n) := iter_of (g := lq101_0 (evalF E n) n) rfl (fun m y => by rw [lp101_0]; simp only [e100 n]) n
    funext a0 a1
    rw [gq101, rr101]
    simp only [e100 n, l0]
    rfl
def R60 : Nat → LL_ → LL_ → Option (LI_ × Bool)
  | 0, _, _ => none
  | n + 1, a0, a1 => r60 (R101 n) (iter (F60_0 (R101 n) ) n) a0 a1
def J60_0 (n m : Nat) : (LL_ × LL_ × Int × LI_) → Option ((LL_ × LL_ × Int × LI_) ⊕ (LI_ × Bool)) := iter (F60_0 (R101 n) ) m
theorem j60_0 (n m : Nat) (x : LL_ × LL_ × Int × LI_) : J60_0 n (m + 1) x = F60_0 (R101 n)  (J60_0 n m) x := rfl
theorem u60 (n : Nat) (a0 : LL_) (a1 : LL_) : R60 (n + 1) a0 a1 = r60 (R101 n) (J60_0 n n) a0 a1 := rfl
theorem e60 : ∀ (n : Nat), g60 (evalF E n) = R60 n
  | 0 => by funext a0 a1; rfl
  | n + 1 => by
    have l0 : lq60_0 (evalF E n) n n = (iter (F60_0 (R101 n) ) n) := iter_of (g := lq60_0 (evalF E n) n) rfl (fun m y => by rw [lp60_0]; simp only [e101 n]) n
    funext a0 a1
    rw [gq60, rr60]
    simp only [e101 n, l0]
    rfl
def R29 : Nat → LL_ → LL_ → Option (LI_ × LI_ × Int)
  | 0, _, _ => none
  | n + 1, a0, a1 => r29 (R59 n) (R60 n)  a0 a1
theorem u29 (n : Nat) (a0 : LL_) (a1 : LL_) : R29 (n + 1) a0 a1 = r29 (R59 n) (R60 n)  a0 a1 := rfl
theorem e29 : ∀ (n : Nat), g29 (evalF E n) = R29 n
  | 0 => by funext a0 a1; rfl
  | n + 1 => by
    funext a0 a1
    rw [gq29, rr29]
    simp only [e59 n, e60 n]
    rfl
def R61 : Nat → Int → LI_ → Option (LL_ × Int)
  | 0, _, _ => none
  | n + 1, a0, a1 => r61  (iter (F61_0  ) n) a0 a1
def J61_0 (n m : Nat) : (Int × LI_ × Int × Int × LL_) → Option ((Int × LI_ × Int × Int × LL_) ⊕ (LL_ × Int)) := iter (F61_0  ) m
theorem j61_0 (n m : Nat) (x : Int × LI_ × Int × Int × LL_) : J61_0 n (m + 1) x = F61_0   (J61_0 n m) x := rfl
theorem u61 (n : Nat) (a0 : Int) (a1 : LI_) : R61 (n + 1) a0 a1 = r61  (J61_0 n n) a0 a1 := rfl
theorem e61 : ∀ (n : Nat), g61 (evalF E n) = R61 n
  | 0 => by funext a0 a1; rfl
  | n + 1 => by
    have l0 : lq61_0 (evalF E n) n n = (iter (F61_0  ) n) := iter_of (g := lq61_0 (evalF E n) n) rfl (fun m y => by rw [lp61_0]) n
    funext a0 a1
    rw [gq61, rr61]
    simp only [l0]
    rfl
def R30 : Nat → Int → LI_ → Option (LL_)
  | 0, _, _ => none
  | n + 1, a0, a1 => r30 (R61 n)  a0 a1
theorem u30 (n : Nat) (a0 : Int) (a1 : LI_) : R30 (n + 1) a0 a1 = r30 (R61 n)  a0 a1 := rfl
theorem e30 : ∀ (n : Nat), g30 (evalF E n) = R30 n
  | 0 => by funext a0 a1; rfl
  | n + 1 => by
    funext a0 a1
    rw [gq30, rr30]
    simp only [e61 n]
    rfl
def R14 : Nat → Int → LI_ → LI_ → Option (LI_ × LI_)
  | 0, _, _, _ => none
  | n + 1, a0, a1, a2 => r14 (R29 n) (R30 n)  a0 a1 a2
theorem u14 (n : Nat) (a0 : Int) (a1 : LI_) (a2 : LI_) : R14 (n + 1) a0 a1 a2 = r14 (R29 n) (R30 n)  a0 a1 a2 := rfl
theorem e14 : ∀ (n : Nat), g14 (evalF E n) = R14 n
  | 0 => by funext a0 a1 a2; rfl
  | n + 1 => by
    funext a0 a1 a2
    rw [gq14, rr14]
    simp only [e29 n, e30 n]
    rfl
def R6 : Nat → Int → LI_ → LI_ → Int → Option (Int × Int)
  | 0, _, _, _, _ => none
  | n + 1, a0, a1, a2, a3 => r6 (R12 n) (R13 n) (R14 n)  a0 a1 a2 a3
theorem u6 (n : Nat) (a0 : Int) (a1 : LI_) (a2 : LI_) (a3 : Int) : R6 (n + 1) a0 a1 a2 a3 = r6 (R12 n) (R13 n) (R14 n)  a0 a1 a2 a3 := rfl
theorem e6 : ∀ (n : Nat), g6 (evalF E n) = R6 n
  | 0 => by funext a0 a1 a2 a3; rfl
  | n + 1 => by
    funext a0 a1 a2 a3
    rw [gq6, rr6]
    simp only [e12 n, e13 n, e14 n]
    rfl
noncomputable def R3 : Nat → Int → LI_ → LI_ → Int → Option (Bool)
  | 0, _, _, _, _ => none
  | n + 1, a0, a1, a2, a3 => r3 (R4 n) (R5 n) (R6 n)  a0 a1 a2 a3
theorem u3 (n : Nat) (a0 : Int) (a1 : LI_) (a2 : LI_) (a3 : Int) : R3 (n + 1) a0 a1 a2 a3 = r3 (R4 n) (R5 n) (R6 n)  a0 a1 a2 a3 := rfl
theorem e3 : ∀ (n : Nat), g3 (evalF E n) = R3 n
  | 0 => by funext a0 a1 a2 a3; rfl
  | n + 1 => by
    funext a0 a1 a2 a3
    rw [gq3, rr3]
    simp only [e4 n, e5 n, e6 n]
    rfl
theorem law_R (n : Nat) (a0 : Int) (a1 : LI_) (a2 : LI_) (a3 : Int) : runHow E (evalF E n) n s3 (a0, a1, a2, a3) h3 = R3 (n + 1) a0 a1 a2 a3 := (gq3 n a0 a1 a2 a3).symm.trans (congrFun (congrFun (congrFun (congrFun (e3 (n + 1)) a0) a1) a2) a3)
theorem okAll : EntriesOK Tryz.prog NoX 0 E.fns := ⟨trivial,
  trivial,
  trivial,
  ok3 NoX,
  ok4 NoX,
  ok5 NoX,
  ok6 NoX,
  ok7 NoX,
  ok8 NoX,
  ok9 NoX,
  ok10 NoX,
  ok11 NoX,
  ok12 NoX,
  ok13 NoX,
  ok14 NoX,
  ok15 NoX,
  ok16 NoX,
  ok17 NoX,
  ok18 NoX,
  ok19 NoX,
  ok20 NoX,
  ok21 NoX,
  ok22 NoX,
  ok23 NoX,
  ok24 NoX,
  fun _ _ _ h => PortX.next_spec NoX_ok h,
  ok26 NoX,
  ok27 NoX,
  ok28 NoX,
  ok29 NoX,
  ok30 NoX,
  ok31 NoX,
  fun _ _ _ h => PortX.Of_spec NoX_ok h,
  ok33 NoX,
  ok34 NoX,
  ok35 NoX,
  trivial,
  trivial,
  trivial,
  trivial,
  trivial,
  trivial,
  trivial,
  trivial,
  ok44 NoX,
  ok45 NoX,
  ok46 NoX,
  ok47 NoX,
  ok48 NoX,
  ok49 NoX,
  ok50 NoX,
  ok51 NoX,
  fun _ _ _ h => NameX.Clone_spec h,
  ok53 NoX,
  ok54 NoX,
  ok55 NoX,
  fun _ _ _ h => PortX.CloneI_spec NoX_ok h,
  ok57 NoX,
  fun _ _ _ h => GridX.Behind_spec NoX_ok h,
  ok59 NoX,
  ok60 NoX,
  ok61 NoX,
  ok62 NoX,
  ok63 NoX,
  ok64 NoX,
  fun _ _ _ h => PortX.Behind_spec NoX_ok h,
  trivial,
  trivial,
  trivial,
  trivial,
  trivial,
  trivial,
  trivial,
  trivial,
  trivial,
  trivial,
  trivial,
  trivial,
  trivial,
  trivial,
  trivial,
  trivial,
  trivial,
  trivial,
  trivial,
  trivial,
  trivial,
  trivial,
  trivial,
  ok89 NoX,
  ok90 NoX,
  fun _ _ _ h => PortX.IndexByte_spec h,
  fun _ _ _ h => NameX.CloneR_spec h,
  fun _ _ _ h => NameX.SortR_spec h,
  ok94 NoX,
  fun _ _ _ h => NameX.CompactR_spec h,
  ok96 NoX,
  fun _ _ _ h => NameX.GrowR_spec h,
  ok98 NoX,
  ok99 NoX,
  ok100 NoX,
  ok101 NoX,
  ok102 NoX,
  fun _ _ _ h => PortX.Count_spec h,
  ok104 NoX,
  ok105 NoX,
  ok106 NoX,
  ok107 NoX,
  trivial,
  trivial,
  trivial,
  trivial,
  trivial,
  trivial,
  trivial,
  trivial,
  trivial,
  trivial,
  trivial,
  trivial,
  trivial,
  trivial,
  trivial,
  trivial,
  trivial,
  trivial,
  trivial,
  trivial,
  trivial,
  ok129 NoX,
  fun _ _ _ h => NameX.Compare_spec h,
  ok131 NoX,
  ok132 NoX,
  trivial,
  ok134 NoX,
  ok135 NoX,
  ok136 NoX,
  trivial,
  trivial,
  trivial,
  trivial,
  trivial,
  trivial,
  trivial,
  trivial,
  trivial,
  trivial,
  trivial,
  trivial,
  trivial,
  trivial,
  trivial,
  trivial,
  trivial,
  trivial,
  trivial,
  trivial,
  trivial,
  trivial,
  trivial,
  trivial,
  trivial,
  ok162 NoX,
  ok163 NoX,
  ok164 NoX,
  ok165 NoX, trivial⟩
theorem mixed : Tryz.prog.follows .mixedOrders = true := by kernel_rfl
theorem calls (n : Nat) : CallOK Tryz.prog NoX E (evalF E n) := evalF_sound NoX_ok tys mixed (entries_fn okAll) n
end Go.Proofs.YtgelkklendpeoaaGreat.EPortNear
