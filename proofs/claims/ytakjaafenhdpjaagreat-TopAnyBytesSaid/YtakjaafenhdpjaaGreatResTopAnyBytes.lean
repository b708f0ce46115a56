import Derived.Test.YtakjaafenhdpjaaGreatProg
import Derived.Test.YtakjaafenhdpjaaGreatAeB
import Derived.Test.YtakjaafenhdpjaaGreatNameC
import Derived.Test.YtakjaafenhdpjaaGreatNameR
import Derived.Test.YtakjaafenhdpjaaGreatNameX
import Derived.Test.YtakjaafenhdpjaaGreatPortX
namespace Go.Proofs.YtakjaafenhdpjaaGreat.ETopAnyBytes
open Go Go.Proofs.YtakjaafenhdpjaaGreat.AE
set_option maxRecDepth 100000
set_option linter.unusedVariables false
abbrev LI_ : Type := List Int
abbrev LL_ : Type := List (List Int)
abbrev HK_ : Type := List (Int × (List (List Int) × List (List Int)))
abbrev TH_ : Ty := (.slice (.pair (.int .i64) (.pair (.slice (.slice (.int .u8))) (.one (.slice (.slice (.int .u8)))))))
abbrev TK_ : Ty := (.pair (.int .i64) (.pair (.slice (.slice (.int .u8))) (.one (.slice (.slice (.int .u8))))))
abbrev TT_ : Ty := (.slice (.slice (.int .u8)))
abbrev TB_ : Ty := (.slice (.int .u8))
abbrev TI_ : Ty := (.slice (.int .i64))
noncomputable def cd (f : Func) : Code := match f.body with | some c => c | none => .skip
noncomputable def c3 : Code := cd Tryz.f3
def s3 : Sig := ⟨⟨[.dat TB_, .dat TB_], []⟩, ⟨[.dat .bool], []⟩⟩
def hs3 : List (List Nat × LH) := []
noncomputable def h3 : How s3 := .code Tryz.f3 c3 hs3
noncomputable def c4 : Code := cd Tryz.f4
def s4 : Sig := ⟨⟨[], []⟩, ⟨[.dat .bool], []⟩⟩
def hs4 : List (List Nat × LH) := []
noncomputable def h4 : How s4 := .code Tryz.f4 c4 hs4
noncomputable def c5 : Code := cd Tryz.f5
def s5 : Sig := ⟨⟨[.dat TB_, .dat TB_], []⟩, ⟨[.dat TB_, .dat (.int .i64), .dat (.int .i64)], []⟩⟩
def hs5 : List (List Nat × LH) := []
noncomputable def h5 : How s5 := .code Tryz.f5 c5 hs5
noncomputable def c6 : Code := cd Tryz.f6
def s6 : Sig := ⟨⟨[.dat TB_, .dat TB_], []⟩, ⟨[.dat TB_, .dat (.int .i64), .dat (.int .i64)], []⟩⟩
def hs6 : List (List Nat × LH) := []
noncomputable def h6 : How s6 := .code Tryz.f6 c6 hs6
noncomputable def c7 : Code := cd Tryz.f7
def s7 : Sig := ⟨⟨[.dat TB_], []⟩, ⟨[.dat (.int .i64), .dat TH_, .dat (.int .i64), .dat (.int .i64)], []⟩⟩
def hs7 : List (List Nat × LH) := [([0, 0, 1, 1, 1, 1, 1], ⟨[0, 6, 7, 10], ⟨[.dat TB_, .dat (.int .i64), .dat (.int .i64), .ref 0], [.row TK_]⟩, 2⟩), ([0, 1, 0, 1, 1], ⟨[0, 6, 7, 8], ⟨[.dat TB_, .dat (.int .i64), .dat (.int .i64), .dat (.int .i64)], []⟩, 0⟩), ([0, 1, 0, 1, 1, 1, 1, 0, 1, 0, 0, 0, 1, 1, 1, 1, 1], ⟨[0, 6, 7, 10, 12, 13, 15, 16], ⟨[.dat TB_, .dat (.int .i64), .dat (.int .i64), .ref 0, .dat (.int .i64), .dat (.int .i64), .ptr 1 0, .dat (.int .i64)], [.row TK_, .vst TK_]⟩, 4⟩)]
noncomputable def h7 : How s7 := .code Tryz.f7 c7 hs7
noncomputable def c8 : Code := cd Tryz.f8
def s8 : Sig := ⟨⟨[.dat (.int .i64), .dat (.int .i64), .dat TB_, .dat TB_, .dat (.pair (.int .i64) (.one (.int .i64)))], []⟩, ⟨[.dat (.pair (.int .i64) (.pair (.int .i64) (.pair (.int .i64) (.pair (.int .i64) (.pair (.slice (.pair (.int .i64) (.one (.int .i64)))) (.one TH_)))))), .dat (.int .i64)], []⟩⟩
def hs8 : List (List Nat × LH) := []
noncomputable def h8 : How s8 := .code Tryz.f8 c8 hs8
noncomputable def c9 : Code := cd Tryz.f9
def s9 : Sig := ⟨⟨[], []⟩, ⟨[.dat (.pair (.int .i64) (.one (.int .i64)))], []⟩⟩
def hs9 : List (List Nat × LH) := []
noncomputable def h9 : How s9 := .code Tryz.f9 c9 hs9
noncomputable def c10 : Code := cd Tryz.f10
def s10 : Sig := ⟨⟨[.dat (.int .i64), .dat TB_, .dat TB_, .dat (.int .i64)], []⟩, ⟨[.dat (.int .i64), .dat (.int .i64)], []⟩⟩
def hs10 : List (List Nat × LH) := []
noncomputable def h10 : How s10 := .code Tryz.f10 c10 hs10
noncomputable def c11 : Code := cd Tryz.f11
def s11 : Sig := ⟨⟨[.dat TB_], []⟩, ⟨[.dat (.int .i64), .dat TH_, .dat (.int .i64), .dat (.int .i64)], []⟩⟩
def hs11 : List (List Nat × LH) := [([0, 0, 1, 1, 1, 1], ⟨[0, 3, 6, 7], ⟨[.dat TB_, .ref 0, .ptr 1 0, .dat (.int .i64)], [.row TK_, .var (.pair TB_ (.pair (.int .i64) (.one (.int .i64))))]⟩, 0⟩)]
noncomputable def h11 : How s11 := .code Tryz.f11 c11 hs11
noncomputable def c12 : Code := cd Tryz.f12
def s12 : Sig := ⟨⟨[.dat (.int .i64), .dat TH_, .dat TB_], []⟩, ⟨[.dat TB_, .dat (.int .i64)], []⟩⟩
def hs12 : List (List Nat × LH) := []
noncomputable def h12 : How s12 := .code Tryz.f12 c12 hs12
noncomputable def c13 : Code := cd Tryz.f13
def s13 : Sig := ⟨⟨[.dat TH_], []⟩, ⟨[.dat TH_, .dat (.int .i64)], []⟩⟩
def hs13 : List (List Nat × LH) := [([0, 1, 0, 1, 1, 1, 1], ⟨[4, 5, 12, 13, 14], ⟨[.ref 0, .dat (.int .i64), .dat TH_, .dat (.int .i64), .dat (.int .i64)], [.row TK_]⟩, 0⟩)]
noncomputable def h13 : How s13 := .code Tryz.f13 c13 hs13
noncomputable def c14 : Code := cd Tryz.f14
def s14 : Sig := ⟨⟨[.dat (.int .i64)], []⟩, ⟨[.dat .str], []⟩⟩
def hs14 : List (List Nat × LH) := []
noncomputable def h14 : How s14 := .code Tryz.f14 c14 hs14
noncomputable def c15 : Code := cd Tryz.f15
def s15 : Sig := ⟨⟨[.dat TB_, .dat (.int .i64), .dat (.int .u8)], []⟩, ⟨[.dat .bool], []⟩⟩
def hs15 : List (List Nat × LH) := []
noncomputable def h15 : How s15 := .code Tryz.f15 c15 hs15
noncomputable def c16 : Code := cd Tryz.f16
def s16 : Sig := ⟨⟨[.dat TB_, .dat (.int .i64)], []⟩, ⟨[.dat (.int .i64), .dat (.int .i64), .dat (.int .i64), .dat (.int .i64)], []⟩⟩
def hs16 : List (List Nat × LH) := []
noncomputable def h16 : How s16 := .code Tryz.f16 c16 hs16
noncomputable def c17 : Code := cd Tryz.f17
def s17 : Sig := ⟨⟨[.dat (.int .i64), .dat TB_, .dat (.int .i64)], []⟩, ⟨[.dat TB_, .dat (.int .i64)], []⟩⟩
def hs17 : List (List Nat × LH) := []
noncomputable def h17 : How s17 := .code Tryz.f17 c17 hs17
noncomputable def c18 : Code := cd Tryz.f18
def s18 : Sig := ⟨⟨[.dat (.int .i64), .dat (.int .i64), .dat TB_, .dat TB_, .dat (.pair (.int .i64) (.one (.int .i64)))], []⟩, ⟨[.dat (.pair TT_ (.pair TT_ (.pair TI_ (.pair TI_ (.pair (.int .i64) (.pair (.int .i64) (.pair TI_ (.one TI_)))))))), .dat (.int .i64), .dat (.int .i64)], []⟩⟩
def hs18 : List (List Nat × LH) := []
noncomputable def h18 : How s18 := .code Tryz.f18 c18 hs18
noncomputable def c19 : Code := cd Tryz.f19
def s19 : Sig := ⟨⟨[.dat (.int .i64), .dat TI_, .dat TI_], []⟩, ⟨[.dat (.slice (.pair (.int .i64) (.one (.int .i64)))), .dat (.int .i64)], []⟩⟩
def hs19 : List (List Nat × LH) := []
noncomputable def h19 : How s19 := .code Tryz.f19 c19 hs19
noncomputable def c20 : Code := cd Tryz.f20
def s20 : Sig := ⟨⟨[.dat (.slice (.pair (.int .i64) (.one (.int .i64)))), .dat (.int .i64), .dat (.int .i64), .dat (.int .i64), .dat (.int .i64)], []⟩, ⟨[.dat (.slice (.pair (.int .i64) (.one (.int .i64)))), .dat (.int .i64)], []⟩⟩
def hs20 : List (List Nat × LH) := [([0, 1, 0, 1, 1, 1], ⟨[0, 1, 2, 3, 4, 12, 49, 50], ⟨[.dat (.slice (.pair (.int .i64) (.one (.int .i64)))), .dat (.int .i64), .dat (.int .i64), .dat (.int .i64), .dat (.int .i64), .ref 0, .dat (.int .i64), .dat (.int .i64)], [.row (.pair (.int .i64) (.one (.int .i64)))]⟩, 0⟩), ([0, 1, 0, 1, 1, 1, 1], ⟨[1, 2, 3, 4, 12, 60, 61, 62], ⟨[.dat (.int .i64), .dat (.int .i64), .dat (.int .i64), .dat (.int .i64), .ref 0, .dat (.slice (.pair (.int .i64) (.one (.int .i64)))), .dat (.int .i64), .dat (.int .i64)], [.row (.pair (.int .i64) (.one (.int .i64)))]⟩, 2⟩), ([0, 1, 0, 1, 1, 1, 1, 1], ⟨[3, 4, 12, 16], ⟨[.dat (.int .i64), .dat (.int .i64), .ref 0, .dat (.int .i64)], [.row (.pair (.int .i64) (.one (.int .i64)))]⟩, 4⟩)]
noncomputable def h20 : How s20 := .code Tryz.f20 c20 hs20
noncomputable def c21 : Code := cd Tryz.f21
def s21 : Sig := ⟨⟨[.dat TI_, .dat TI_, .dat (.slice (.pair (.int .i64) (.one (.int .i64))))], []⟩, ⟨[.dat (.slice (.pair (.int .i64) (.one (.int .i64)))), .dat (.int .i64)], []⟩⟩
def hs21 : List (List Nat × LH) := []
noncomputable def h21 : How s21 := .code Tryz.f21 c21 hs21
noncomputable def c22 : Code := cd Tryz.f22
def s22 : Sig := ⟨⟨[.dat TT_, .dat TT_, .dat (.slice (.pair (.int .i64) (.one (.int .i64))))], []⟩, ⟨[.dat TH_, .dat (.int .i64)], []⟩⟩
def hs22 : List (List Nat × LH) := [([0, 1, 0, 1, 1, 1, 1, 1, 1], ⟨[3, 4, 11, 14, 30, 31, 32], ⟨[.ptr 0 0, .ptr 1 0, .ptr 2 0, .fnc 54 [3, 4, 2, 0, 1], .dat (.slice (.pair (.int .i64) (.one (.int .i64)))), .dat (.int .i64), .dat (.int .i64)], [.var TT_, .var TT_, .vrow TK_, .var (.int .i64), .var (.int .i64)]⟩, 0⟩)]
noncomputable def h22 : How s22 := .code Tryz.f22 c22 hs22
noncomputable def c23 : Code := cd Tryz.f23
def s23 : Sig := ⟨⟨[.dat (.int .i64), .dat TB_, .dat TB_], []⟩, ⟨[.dat (.pair TT_ (.pair TT_ (.pair TI_ (.pair TI_ (.pair (.int .i64) (.pair (.int .i64) (.pair TI_ (.one TI_)))))))), .dat (.int .i64)], []⟩⟩
def hs23 : List (List Nat × LH) := []
noncomputable def h23 : How s23 := .code Tryz.f23 c23 hs23
noncomputable def c24 : Code := cd Tryz.f24
def s24 : Sig := ⟨⟨[.dat TI_, .dat TI_, .dat (.int .i64)], []⟩, ⟨[.dat (.int .i64), .dat (.int .i64), .dat (.int .i64)], []⟩⟩
def hs24 : List (List Nat × LH) := [([0, 1, 0, 1, 1, 1, 1, 1], ⟨[0, 1, 2, 9, 10, 12, 31, 32], ⟨[.dat TI_, .dat TI_, .dat (.int .i64), .dat (.int .i64), .dat (.int .i64), .ptr 0 0, .dat (.int .i64), .dat (.int .i64)], [.var (.pair (.int .i64) (.one TI_))]⟩, 0⟩)]
noncomputable def h24 : How s24 := .code Tryz.f24 c24 hs24
noncomputable def c25 : Code := cd Tryz.f25
def s25 : Sig := ⟨⟨[.ptr 0 0], [.var (.pair TB_ (.pair (.int .i64) (.one (.int .i64))))]⟩, ⟨[.dat .bool], [.var (.pair TB_ (.pair (.int .i64) (.one (.int .i64))))]⟩⟩
def hs25 : List (List Nat × LH) := [([0, 1, 0, 1], ⟨[0, 5, 6, 7], ⟨[.ptr 0 0, .dat TI_, .dat (.int .i64), .dat (.int .i64)], [.var (.pair TB_ (.pair (.int .i64) (.one (.int .i64))))]⟩, 0⟩)]
noncomputable def h25 : How s25 := .code Tryz.f25 c25 hs25
noncomputable def c26 : Code := cd Tryz.f26
def s26 : Sig := ⟨⟨[.ptr 0 0], [.var (.pair TB_ (.pair (.int .i64) (.one (.int .i64))))]⟩, ⟨[.dat (.int .i64), .dat (.int .i64), .dat (.int .i64), .dat .bool], [.var (.pair TB_ (.pair (.int .i64) (.one (.int .i64))))]⟩⟩
def hs26 : List (List Nat × LH) := []
noncomputable def h26 : How s26 := .code Tryz.f26 c26 hs26
noncomputable def c27 : Code := cd Tryz.f27
def s27 : Sig := ⟨⟨[.ptr 0 0, .dat (.int .i64)], [.var (.pair TB_ (.pair (.int .i64) (.one (.int .i64))))]⟩, ⟨[.dat TT_, .dat (.int .i64), .dat .bool], [.var (.pair TB_ (.pair (.int .i64) (.one (.int .i64))))]⟩⟩
def hs27 : List (List Nat × LH) := [([0, 1, 0, 1], ⟨[0, 4, 10, 11], ⟨[.ptr 0 0, .ref 1, .dat (.int .i64), .dat (.int .i64)], [.var (.pair TB_ (.pair (.int .i64) (.one (.int .i64)))), .row TB_]⟩, 0⟩)]
noncomputable def h27 : How s27 := .code Tryz.f27 c27 hs27
noncomputable def c28 : Code := cd Tryz.f28
def s28 : Sig := ⟨⟨[.ptr 0 0, .dat .str], [.var (.pair TB_ (.pair (.int .i64) (.one (.int .i64))))]⟩, ⟨[.dat .bool], [.var (.pair TB_ (.pair (.int .i64) (.one (.int .i64))))]⟩⟩
def hs28 : List (List Nat × LH) := []
noncomputable def h28 : How s28 := .code Tryz.f28 c28 hs28
noncomputable def c29 : Code := cd Tryz.f29
def s29 : Sig := ⟨⟨[.dat (.int .i64), .dat TB_], []⟩, ⟨[.dat TT_, .dat (.int .i64)], []⟩⟩
def hs29 : List (List Nat × LH) := [([0, 0, 1, 1, 1], ⟨[0, 1, 6], ⟨[.dat (.int .i64), .dat TB_, .ref 0], [.row TB_]⟩, 0⟩)]
noncomputable def h29 : How s29 := .code Tryz.f29 c29 hs29
noncomputable def c30 : Code := cd Tryz.f30
def s30 : Sig := ⟨⟨[.dat TH_, .dat TT_], []⟩, ⟨[.dat TT_, .dat (.int .i64)], []⟩⟩
def hs30 : List (List Nat × LH) := [([0, 1, 0, 1, 1, 1, 1], ⟨[1, 6, 7, 13, 14, 15], ⟨[.dat TT_, .ref 0, .dat (.int .i64), .dat TH_, .dat (.int .i64), .dat (.int .i64)], [.row TB_]⟩, 0⟩)]
noncomputable def h30 : How s30 := .code Tryz.f30 c30 hs30
noncomputable def c31 : Code := cd Tryz.f31
def s31 : Sig := ⟨⟨[.dat TT_], []⟩, ⟨[.dat TB_], []⟩⟩
def hs31 : List (List Nat × LH) := [([0, 1, 0, 1, 1], ⟨[3, 6, 7, 8], ⟨[.ref 0, .dat TT_, .dat (.int .i64), .dat (.int .i64)], [.row (.int .u8)]⟩, 0⟩)]
noncomputable def h31 : How s31 := .code Tryz.f31 c31 hs31
noncomputable def c32 : Code := cd Tryz.f32
def s32 : Sig := ⟨⟨[.dat TH_], []⟩, ⟨[.dat .bool], []⟩⟩
def hs32 : List (List Nat × LH) := [([0, 1, 0, 1, 1], ⟨[3, 6, 7, 8], ⟨[.dat (.int .i64), .dat TH_, .dat (.int .i64), .dat (.int .i64)], []⟩, 0⟩)]
noncomputable def h32 : How s32 := .code Tryz.f32 c32 hs32
noncomputable def c33 : Code := cd Tryz.f33
def s33 : Sig := ⟨⟨[.ref 0, .dat TT_], [.row TB_]⟩, ⟨[.ref 1], [.dead, .row TB_]⟩⟩
def hs33 : List (List Nat × LH) := [([0, 1, 0, 1], ⟨[0, 7, 8, 9], ⟨[.ref 1, .dat TT_, .dat (.int .i64), .dat (.int .i64)], [.dead, .row TB_]⟩, 0⟩)]
noncomputable def h33 : How s33 := .code Tryz.f33 c33 hs33
noncomputable def c34 : Code := cd Tryz.f34
def s34 : Sig := ⟨⟨[.dat TB_, .dat (.int .i64), .dat (.int .i64)], []⟩, ⟨[.dat (.int .i64), .dat (.int .i64)], []⟩⟩
def hs34 : List (List Nat × LH) := [([0, 0, 1, 1], ⟨[0, 1, 2, 8, 9], ⟨[.dat TB_, .dat (.int .i64), .dat (.int .i64), .dat (.int .i64), .dat (.int .i64)], []⟩, 0⟩)]
noncomputable def h34 : How s34 := .code Tryz.f34 c34 hs34
noncomputable def c35 : Code := cd Tryz.f35
def s35 : Sig := ⟨⟨[.dat (.int .i64), .dat TB_], []⟩, ⟨[.dat .bool], []⟩⟩
def hs35 : List (List Nat × LH) := [([0, 1, 0, 1, 1, 1], ⟨[1, 5], ⟨[.dat TB_, .dat (.int .i64)], []⟩, 0⟩)]
noncomputable def h35 : How s35 := .code Tryz.f35 c35 hs35
noncomputable def c36 : Code := cd Tryz.f36
def s36 : Sig := ⟨⟨[.dat (.int .i64), .dat TB_], []⟩, ⟨[.dat (.int .i64), .dat (.int .i64)], []⟩⟩
def hs36 : List (List Nat × LH) := []
noncomputable def h36 : How s36 := .code Tryz.f36 c36 hs36
noncomputable def c38 : Code := cd Tryz.f38
def s38 : Sig := ⟨⟨[.dat (.pair (.int .i64) (.pair (.int .i64) (.pair (.int .i64) (.one (.int .i64)))))], []⟩, ⟨[.dat (.int .i64)], []⟩⟩
def hs38 : List (List Nat × LH) := [([0, 1, 0, 1, 1], ⟨[1, 3, 4, 5], ⟨[.ptr 0 0, .dat (.int .i64), .dat (.int .i64), .dat (.int .i64)], [.var (.pair (.int .i64) (.pair (.int .i64) (.pair (.int .i64) (.one (.int .i64)))))]⟩, 0⟩)]
noncomputable def h38 : How s38 := .code Tryz.f38 c38 hs38
noncomputable def c39 : Code := cd Tryz.f39
def s39 : Sig := ⟨⟨[.dat (.int .i64), .dat (.pair (.int .i64) (.pair (.int .i64) (.pair (.int .i64) (.one (.int .i64))))), .dat (.int .i64)], []⟩, ⟨[.dat (.int .i64)], []⟩⟩
def hs39 : List (List Nat × LH) := []
noncomputable def h39 : How s39 := .code Tryz.f39 c39 hs39
noncomputable def c40 : Code := cd Tryz.f40
def s40 : Sig := ⟨⟨[.dat TI_, .dat TI_], []⟩, ⟨[.dat (.slice (.pair (.int .i64) (.one (.int .i64)))), .dat (.int .i64)], []⟩⟩
def hs40 : List (List Nat × LH) := [([0, 1, 0, 1, 1, 1], ⟨[0, 1, 6, 7, 8, 9], ⟨[.dat TI_, .dat TI_, .dat (.slice TI_), .ref 0, .dat (.int .i64), .dat (.int .i64)], [.row (.pair (.int .i64) (.one (.int .i64)))]⟩, 0⟩)]
noncomputable def h40 : How s40 := .code Tryz.f40 c40 hs40
noncomputable def c49 : Code := cd Tryz.f49
def s49 : Sig := ⟨⟨[.dat (.int .i64)], []⟩, ⟨[.dat .bool], []⟩⟩
def hs49 : List (List Nat × LH) := []
noncomputable def h49 : How s49 := .code Tryz.f49 c49 hs49
noncomputable def c50 : Code := cd Tryz.f50
def s50 : Sig := ⟨⟨[.dat TI_, .dat TI_, .dat (.slice (.pair (.int .i64) (.one (.int .i64))))], []⟩, ⟨[.dat .bool], []⟩⟩
def hs50 : List (List Nat × LH) := [([0, 1, 0, 1, 1], ⟨[0, 1, 7, 11, 12, 13], ⟨[.dat TI_, .dat TI_, .ptr 0 0, .dat (.slice (.pair (.int .i64) (.one (.int .i64)))), .dat (.int .i64), .dat (.int .i64)], [.var (.pair (.int .i64) (.one (.int .i64)))]⟩, 0⟩)]
noncomputable def h50 : How s50 := .code Tryz.f50 c50 hs50
noncomputable def c51 : Code := cd Tryz.f51
def s51 : Sig := ⟨⟨[.dat TI_, .dat TI_], []⟩, ⟨[.dat (.int .i64)], []⟩⟩
def hs51 : List (List Nat × LH) := [([0, 1, 0, 1, 1], ⟨[0, 1, 5, 6], ⟨[.dat TI_, .dat TI_, .ref 0, .dat (.int .i64)], [.row (.int .i64)]⟩, 0⟩), ([0, 1, 1, 0, 0, 1, 0, 0, 1, 0, 1, 1], ⟨[0, 1, 5, 6, 7, 8], ⟨[.dat TI_, .dat TI_, .ref 0, .dat (.int .i64), .dat (.int .i64), .dat (.int .i64)], [.row (.int .i64)]⟩, 2⟩)]
noncomputable def h51 : How s51 := .code Tryz.f51 c51 hs51
noncomputable def c52 : Code := cd Tryz.f52
def s52 : Sig := ⟨⟨[.dat TI_, .dat TI_], []⟩, ⟨[.dat (.slice (.pair (.int .i64) (.one (.int .i64))))], []⟩⟩
def hs52 : List (List Nat × LH) := [([0, 1, 1, 1, 1], ⟨[0, 1, 5, 6, 7, 8], ⟨[.dat TI_, .dat TI_, .dat (.slice TI_), .ref 0, .dat (.int .i64), .dat (.int .i64)], [.row (.pair (.int .i64) (.one (.int .i64)))]⟩, 0⟩)]
noncomputable def h52 : How s52 := .code Tryz.f52 c52 hs52
noncomputable def c53 : Code := cd Tryz.f53
def s53 : Sig := ⟨⟨[.dat TT_, .dat TT_], []⟩, ⟨[.dat TI_, .dat TI_, .dat (.int .i64)], []⟩⟩
def hs53 : List (List Nat × LH) := []
noncomputable def h53 : How s53 := .code Tryz.f53 c53 hs53
noncomputable def c54 : Code := cd Tryz.f54
def s54 : Sig := ⟨⟨[.dat (.int .i64), .dat (.int .i64), .ptr 0 0, .ptr 1 0, .ptr 2 0, .ptr 3 0, .ptr 4 0], [.var (.int .i64), .var (.int .i64), .vrow TK_, .var TT_, .var TT_]⟩, ⟨[], [.var (.int .i64), .var (.int .i64), .vrow TK_, .var TT_, .var TT_]⟩⟩
def hs54 : List (List Nat × LH) := []
noncomputable def h54 : How s54 := .code Tryz.f54 c54 hs54
noncomputable def c55 : Code := cd Tryz.f55
def s55 : Sig := ⟨⟨[.dat TT_], []⟩, ⟨[.dat TT_], []⟩⟩
def hs55 : List (List Nat × LH) := [([0, 1, 0, 1, 1], ⟨[3, 6, 7, 8], ⟨[.ref 0, .dat TT_, .dat (.int .i64), .dat (.int .i64)], [.row TB_]⟩, 0⟩)]
noncomputable def h55 : How s55 := .code Tryz.f55 c55 hs55
noncomputable def c56 : Code := cd Tryz.f56
def s56 : Sig := ⟨⟨[.dat TI_, .dat TI_], []⟩, ⟨[.dat (.int .i64), .dat (.int .i64)], []⟩⟩
def hs56 : List (List Nat × LH) := [([0, 0, 1], ⟨[0, 1, 4, 5], ⟨[.dat TI_, .dat TI_, .dat (.int .i64), .dat (.int .i64)], []⟩, 0⟩), ([0, 0, 1, 1, 1], ⟨[0, 1, 4, 5], ⟨[.dat TI_, .dat TI_, .dat (.int .i64), .dat (.int .i64)], []⟩, 2⟩)]
noncomputable def h56 : How s56 := .code Tryz.f56 c56 hs56
noncomputable def c57 : Code := cd Tryz.f57
def s57 : Sig := ⟨⟨[.dat TI_, .dat TI_], []⟩, ⟨[.dat TI_, .dat TI_], []⟩⟩
def hs57 : List (List Nat × LH) := []
noncomputable def h57 : How s57 := .code Tryz.f57 c57 hs57
noncomputable def c58 : Code := cd Tryz.f58
def s58 : Sig := ⟨⟨[.dat (.int .i64), .dat (.int .i64), .dat (.int .i64)], []⟩, ⟨[.dat (.int .i64), .dat (.int .i64), .dat .bool], []⟩⟩
def hs58 : List (List Nat × LH) := []
noncomputable def h58 : How s58 := .code Tryz.f58 c58 hs58
noncomputable def c60 : Code := cd Tryz.f60
def s60 : Sig := ⟨⟨[.dat (.pair (.int .i64) (.one TI_)), .dat (.int .i64)], []⟩, ⟨[.dat (.int .i64)], []⟩⟩
def hs60 : List (List Nat × LH) := []
noncomputable def h60 : How s60 := .code Tryz.f60 c60 hs60
noncomputable def c61 : Code := cd Tryz.f61
def s61 : Sig := ⟨⟨[.dat (.int .i64), .dat (.int .i64), .dat (.int .i64)], []⟩, ⟨[.dat (.int .i64)], []⟩⟩
def hs61 : List (List Nat × LH) := [([0, 1, 0, 1, 1, 1, 1, 1], ⟨[0, 1, 8, 10, 11], ⟨[.dat (.int .i64), .dat (.int .i64), .dat (.int .i64), .dat (.int .i64), .dat (.int .i64)], []⟩, 0⟩)]
noncomputable def h61 : How s61 := .code Tryz.f61 c61 hs61
noncomputable def c62 : Code := cd Tryz.f62
def s62 : Sig := ⟨⟨[.dat (.int .i64)], []⟩, ⟨[.dat .str], []⟩⟩
def hs62 : List (List Nat × LH) := []
noncomputable def h62 : How s62 := .code Tryz.f62 c62 hs62
noncomputable def c63 : Code := cd Tryz.f63
def s63 : Sig := ⟨⟨[.ptr 0 0], [.var (.pair TB_ (.pair (.int .i64) (.one (.int .i64))))]⟩, ⟨[.dat (.int .i64), .dat .bool], [.var (.pair TB_ (.pair (.int .i64) (.one (.int .i64))))]⟩⟩
def hs63 : List (List Nat × LH) := [([0, 0, 1, 1], ⟨[0, 4, 5], ⟨[.ptr 0 0, .dat (.int .i64), .dat (.int .i64)], [.var (.pair TB_ (.pair (.int .i64) (.one (.int .i64))))]⟩, 0⟩)]
noncomputable def h63 : How s63 := .code Tryz.f63 c63 hs63
noncomputable def c64 : Code := cd Tryz.f64
def s64 : Sig := ⟨⟨[.ptr 0 0], [.var (.pair TB_ (.pair (.int .i64) (.one (.int .i64))))]⟩, ⟨[.dat TB_, .dat .bool], [.var (.pair TB_ (.pair (.int .i64) (.one (.int .i64))))]⟩⟩
def hs64 : List (List Nat × LH) := []
noncomputable def h64 : How s64 := .code Tryz.f64 c64 hs64
noncomputable def c65 : Code := cd Tryz.f65
def s65 : Sig := ⟨⟨[.dat TB_, .dat TB_], []⟩, ⟨[.dat .bool], []⟩⟩
def hs65 : List (List Nat × LH) := []
noncomputable def h65 : How s65 := .code Tryz.f65 c65 hs65
noncomputable def c66 : Code := cd Tryz.f66
def s66 : Sig := ⟨⟨[.dat (.int .i64)], []⟩, ⟨[.dat .bool], []⟩⟩
def hs66 : List (List Nat × LH) := []
noncomputable def h66 : How s66 := .code Tryz.f66 c66 hs66
noncomputable def c67 : Code := cd Tryz.f67
def s67 : Sig := ⟨⟨[.dat TB_, .dat (.int .u8)], []⟩, ⟨[.dat (.int .i64)], []⟩⟩
def hs67 : List (List Nat × LH) := []
noncomputable def h67 : How s67 := .code Tryz.f67 c67 hs67
noncomputable def c69 : Code := cd Tryz.f69
def s69 : Sig := ⟨⟨[.dat TT_, .dat TT_, .dat (.int .i64)], []⟩, ⟨[.dat .bool], []⟩⟩
def hs69 : List (List Nat × LH) := []
noncomputable def h69 : How s69 := .code Tryz.f69 c69 hs69
noncomputable def c70 : Code := cd Tryz.f70
def s70 : Sig := ⟨⟨[.dat TT_], []⟩, ⟨[.dat .bool], []⟩⟩
def hs70 : List (List Nat × LH) := [([0, 1, 0, 1], ⟨[5, 6, 7], ⟨[.dat TT_, .dat (.int .i64), .dat (.int .i64)], []⟩, 0⟩)]
noncomputable def h70 : How s70 := .code Tryz.f70 c70 hs70
noncomputable def c71 : Code := cd Tryz.f71
def s71 : Sig := ⟨⟨[.dat TB_, .dat TB_], []⟩, ⟨[.dat (.int .i64)], []⟩⟩
def hs71 : List (List Nat × LH) := [([0, 1, 1, 1, 1], ⟨[0, 1, 5], ⟨[.dat TB_, .dat TB_, .dat (.int .i64)], []⟩, 0⟩)]
noncomputable def h71 : How s71 := .code Tryz.f71 c71 hs71
noncomputable def c72 : Code := cd Tryz.f72
def s72 : Sig := ⟨⟨[.dat (.int .i64), .dat (.pair (.int .i64) (.pair (.int .i64) (.pair (.int .i64) (.one (.int .i64)))))], []⟩, ⟨[.dat (.int .i64), .dat (.int .i64)], []⟩⟩
def hs72 : List (List Nat × LH) := []
noncomputable def h72 : How s72 := .code Tryz.f72 c72 hs72
noncomputable def c73 : Code := cd Tryz.f73
def s73 : Sig := ⟨⟨[.dat (.int .i64), .dat (.pair (.int .i64) (.pair (.int .i64) (.pair (.int .i64) (.one (.int .i64)))))], []⟩, ⟨[.dat (.int .i64), .dat (.int .i64)], []⟩⟩
def hs73 : List (List Nat × LH) := []
noncomputable def h73 : How s73 := .code Tryz.f73 c73 hs73
noncomputable def c98 : Code := cd Tryz.f98
def s98 : Sig := ⟨⟨[.dat TI_, .dat (.int .i64)], []⟩, ⟨[.dat .bool], []⟩⟩
def hs98 : List (List Nat × LH) := []
noncomputable def h98 : How s98 := .code Tryz.f98 c98 hs98
noncomputable def c99 : Code := cd Tryz.f99
def s99 : Sig := ⟨⟨[.dat (.slice TI_), .dat TI_, .dat TI_, .dat (.int .i64), .dat (.int .i64)], []⟩, ⟨[.dat (.pair (.int .i64) (.one (.int .i64))), .dat .bool], []⟩⟩
def hs99 : List (List Nat × LH) := [([0, 1, 0, 0, 1, 0, 0, 1, 0, 1, 1, 1], ⟨[0, 1, 2, 4, 10, 12, 13, 14], ⟨[.dat (.slice TI_), .dat TI_, .dat TI_, .dat (.int .i64), .ptr 0 0, .dat (.int .i64), .dat (.int .i64), .dat (.int .i64)], [.var (.pair (.int .i64) (.one (.int .i64)))]⟩, 2⟩), ([0, 1, 0, 1, 1, 1], ⟨[0, 1, 2, 4, 10, 12, 13], ⟨[.dat (.slice TI_), .dat TI_, .dat TI_, .dat (.int .i64), .ptr 0 0, .dat (.int .i64), .dat (.int .i64)], [.var (.pair (.int .i64) (.one (.int .i64)))]⟩, 0⟩)]
noncomputable def h99 : How s99 := .code Tryz.f99 c99 hs99
noncomputable def c100 : Code := cd Tryz.f100
def s100 : Sig := ⟨⟨[.dat TT_], []⟩, ⟨[.dat TT_], []⟩⟩
def hs100 : List (List Nat × LH) := [([0, 1, 0, 1, 1, 1, 1, 1], ⟨[4, 16, 17, 18], ⟨[.ref 0, .ref 1, .dat (.int .i64), .dat (.int .i64)], [.row TB_, .row TB_]⟩, 0⟩)]
noncomputable def h100 : How s100 := .code Tryz.f100 c100 hs100
noncomputable def c101 : Code := cd Tryz.f101
def s101 : Sig := ⟨⟨[.dat (.slice TT_)], []⟩, ⟨[.dat TT_], []⟩⟩
def hs101 : List (List Nat × LH) := [([0, 1, 0, 1, 1], ⟨[0, 3, 9, 10, 11], ⟨[.dat (.slice TT_), .dat (.int .i64), .dat (.slice TT_), .dat (.int .i64), .dat (.int .i64)], []⟩, 0⟩), ([0, 1, 0, 1, 1, 1, 1], ⟨[6, 25, 26, 27], ⟨[.ref 0, .dat (.slice TT_), .dat (.int .i64), .dat (.int .i64)], [.row TB_]⟩, 2⟩)]
noncomputable def h101 : How s101 := .code Tryz.f101 c101 hs101
noncomputable def c102 : Code := cd Tryz.f102
def s102 : Sig := ⟨⟨[.dat TT_, .dat TT_], []⟩, ⟨[.dat TI_, .dat .bool], []⟩⟩
def hs102 : List (List Nat × LH) := [([0, 1, 0, 1, 1], ⟨[0, 6, 14, 15, 16], ⟨[.dat TT_, .ref 0, .dat TT_, .dat (.int .i64), .dat (.int .i64)], [.row (.int .i64)]⟩, 0⟩)]
noncomputable def h102 : How s102 := .code Tryz.f102 c102 hs102
noncomputable def c104 : Code := cd Tryz.f104
def s104 : Sig := ⟨⟨[.dat (.int .i64)], []⟩, ⟨[.dat .bool], []⟩⟩
def hs104 : List (List Nat × LH) := []
noncomputable def h104 : How s104 := .code Tryz.f104 c104 hs104
noncomputable def c105 : Code := cd Tryz.f105
def s105 : Sig := ⟨⟨[.dat (.int .i64), .dat TB_], []⟩, ⟨[.dat .bool], []⟩⟩
def hs105 : List (List Nat × LH) := []
noncomputable def h105 : How s105 := .code Tryz.f105 c105 hs105
noncomputable def c106 : Code := cd Tryz.f106
def s106 : Sig := ⟨⟨[.dat TB_, .dat TB_], []⟩, ⟨[.dat .bool], []⟩⟩
def hs106 : List (List Nat × LH) := []
noncomputable def h106 : How s106 := .code Tryz.f106 c106 hs106
noncomputable def c108 : Code := cd Tryz.f108
def s108 : Sig := ⟨⟨[.dat TT_, .dat TT_, .fnc 106 []], []⟩, ⟨[.dat .bool], []⟩⟩
def hs108 : List (List Nat × LH) := [([0, 1, 0, 1, 1], ⟨[1, 2, 15, 16, 17], ⟨[.dat TT_, .fnc 106 [], .dat TT_, .dat (.int .i64), .dat (.int .i64)], []⟩, 0⟩)]
noncomputable def h108 : How s108 := .code Tryz.f108 c108 hs108
noncomputable def c109 : Code := cd Tryz.f109
def s109 : Sig := ⟨⟨[.dat TB_], []⟩, ⟨[.dat (.int .i64)], []⟩⟩
def hs109 : List (List Nat × LH) := [([0, 0, 1, 1, 1], ⟨[0, 3, 4], ⟨[.dat TB_, .dat (.int .i64), .dat (.int .i64)], []⟩, 0⟩)]
noncomputable def h109 : How s109 := .code Tryz.f109 c109 hs109
noncomputable def c111 : Code := cd Tryz.f111
def s111 : Sig := ⟨⟨[.dat TB_, .dat TB_], []⟩, ⟨[.dat (.int .i64)], []⟩⟩
def hs111 : List (List Nat × LH) := [([0, 0, 1, 1, 1, 1, 1, 1, 0, 1, 1, 1, 1, 1, 1, 1, 1, 1, 0, 0, 1, 1], ⟨[0, 1, 5, 6, 7, 8, 9, 10], ⟨[.dat TB_, .dat TB_, .dat (.int .i64), .dat (.int .u8), .dat (.int .u8), .dat (.int .i64), .dat (.int .i64), .dat (.int .i64)], []⟩, 1⟩), ([0, 0, 1, 1, 1, 1, 1, 1, 1, 1], ⟨[0, 1, 5, 13, 14, 15, 16, 17], ⟨[.dat TB_, .dat TB_, .dat (.int .i64), .dat (.int .u8), .dat (.int .u8), .dat (.int .i64), .dat (.int .i64), .dat (.int .i64)], []⟩, 3⟩)]
noncomputable def h111 : How s111 := .code Tryz.f111 c111 hs111
noncomputable def c112 : Code := cd Tryz.f112
def s112 : Sig := ⟨⟨[.dat (.int .i64), .dat (.pair (.int .i64) (.pair (.int .i64) (.pair (.int .i64) (.one (.int .i64)))))], []⟩, ⟨[.dat .bool], []⟩⟩
def hs112 : List (List Nat × LH) := []
noncomputable def h112 : How s112 := .code Tryz.f112 c112 hs112
noncomputable def c113 : Code := cd Tryz.f113
def s113 : Sig := ⟨⟨[.dat (.int .i64), .dat (.int .i64)], []⟩, ⟨[.dat (.int .i64)], []⟩⟩
def hs113 : List (List Nat × LH) := []
noncomputable def h113 : How s113 := .code Tryz.f113 c113 hs113
noncomputable def c114 : Code := cd Tryz.f114
def s114 : Sig := ⟨⟨[.dat (.int .i64)], []⟩, ⟨[.dat (.int .i64)], []⟩⟩
def hs114 : List (List Nat × LH) := []
noncomputable def h114 : How s114 := .code Tryz.f114 c114 hs114
noncomputable def c137 : Code := cd Tryz.f137
def s137 : Sig := ⟨⟨[.dat TB_, .dat TB_], []⟩, ⟨[.dat (.int .i64)], []⟩⟩
def hs137 : List (List Nat × LH) := []
noncomputable def h137 : How s137 := .code Tryz.f137 c137 hs137
noncomputable def c140 : Code := cd Tryz.f140
def s140 : Sig := ⟨⟨[.dat TT_, .dat TB_], []⟩, ⟨[.dat (.int .i64), .dat .bool], []⟩⟩
def hs140 : List (List Nat × LH) := []
noncomputable def h140 : How s140 := .code Tryz.f140 c140 hs140
noncomputable def c141 : Code := cd Tryz.f141
def s141 : Sig := ⟨⟨[.dat .str], []⟩, ⟨[.dat (.int .i64)], []⟩⟩
def hs141 : List (List Nat × LH) := [([0, 1, 0, 1], ⟨[2, 4], ⟨[.dat (.int .i64), .skip], []⟩, 0⟩)]
noncomputable def h141 : How s141 := .code Tryz.f141 c141 hs141
noncomputable def c143 : Code := cd Tryz.f143
def s143 : Sig := ⟨⟨[.dat (.int .i64)], []⟩, ⟨[.dat (.int .i64)], []⟩⟩
def hs143 : List (List Nat × LH) := []
noncomputable def h143 : How s143 := .code Tryz.f143 c143 hs143
noncomputable def c144 : Code := cd Tryz.f144
def s144 : Sig := ⟨⟨[.dat TB_, .dat TB_], []⟩, ⟨[.dat (.int .i64)], []⟩⟩
def hs144 : List (List Nat × LH) := [([0, 1, 0, 1, 1, 1, 1], ⟨[0, 1, 5, 6, 7, 8, 9], ⟨[.dat TB_, .dat TB_, .dat (.int .u32), .dat (.int .u32), .dat (.int .i64), .dat (.int .u32), .dat (.int .i64)], []⟩, 0⟩), ([0, 1, 0, 1, 1, 1, 1, 1, 1], ⟨[0, 1, 5, 6, 7, 8, 10], ⟨[.dat TB_, .dat TB_, .dat (.int .u32), .dat (.int .u32), .dat (.int .i64), .dat (.int .u32), .dat (.int .i64)], []⟩, 2⟩)]
noncomputable def h144 : How s144 := .code Tryz.f144 c144 hs144
noncomputable def c145 : Code := cd Tryz.f145
def s145 : Sig := ⟨⟨[.dat (.pair (.int .i64) (.pair (.int .i64) (.pair (.int .i64) (.one (.int .i64)))))], []⟩, ⟨[.dat .bool], []⟩⟩
def hs145 : List (List Nat × LH) := []
noncomputable def h145 : How s145 := .code Tryz.f145 c145 hs145
noncomputable def c146 : Code := cd Tryz.f146
def s146 : Sig := ⟨⟨[.dat (.int .u64)], []⟩, ⟨[.dat (.int .i64)], []⟩⟩
def hs146 : List (List Nat × LH) := []
noncomputable def h146 : How s146 := .code Tryz.f146 c146 hs146
noncomputable def c166 : Code := cd Tryz.f166
def s166 : Sig := ⟨⟨[.dat TT_, .dat TB_, .fnc 137 []], []⟩, ⟨[.dat (.int .i64), .dat .bool], []⟩⟩
def hs166 : List (List Nat × LH) := [([0, 0, 1, 1, 1], ⟨[0, 1, 2, 8, 9, 10], ⟨[.dat TT_, .dat TB_, .fnc 137 [], .dat (.int .i64), .dat (.int .i64), .dat (.int .i64)], []⟩, 0⟩)]
noncomputable def h166 : How s166 := .code Tryz.f166 c166 hs166
noncomputable def c167 : Code := cd Tryz.f167
def s167 : Sig := ⟨⟨[.dat TB_], []⟩, ⟨[.dat (.int .u32), .dat (.int .u32)], []⟩⟩
def hs167 : List (List Nat × LH) := [([0, 1, 0, 1, 1], ⟨[0, 4, 5], ⟨[.dat TB_, .dat (.int .u32), .dat (.int .i64)], []⟩, 0⟩), ([0, 1, 0, 1, 1, 1, 1], ⟨[4, 6, 7, 8], ⟨[.dat (.int .u32), .dat (.int .u32), .dat (.int .u32), .dat (.int .i64)], []⟩, 2⟩)]
noncomputable def h167 : How s167 := .code Tryz.f167 c167 hs167
noncomputable def c168 : Code := cd Tryz.f168
def s168 : Sig := ⟨⟨[.dat (.int .i64)], []⟩, ⟨[.dat .bool], []⟩⟩
def hs168 : List (List Nat × LH) := []
noncomputable def h168 : How s168 := .code Tryz.f168 c168 hs168
noncomputable def c169 : Code := cd Tryz.f169
def s169 : Sig := ⟨⟨[.dat (.int .u32)], []⟩, ⟨[.dat (.int .i64)], []⟩⟩
def hs169 : List (List Nat × LH) := []
noncomputable def h169 : How s169 := .code Tryz.f169 c169 hs169
noncomputable def c170 : Code := cd Tryz.f170
def s170 : Sig := ⟨⟨[.dat (.int .u64)], []⟩, ⟨[.dat (.int .i64)], []⟩⟩
def hs170 : List (List Nat × LH) := []
noncomputable def h170 : How s170 := .code Tryz.f170 c170 hs170
def s37 : Sig := ⟨⟨[.dat TI_, .dat TI_], []⟩, ⟨[.dat (.pair (.int .i64) (.pair (.int .i64) (.pair (.int .i64) (.one (.int .i64)))))], []⟩⟩
def h37 : How s37 := .orc (fun _ x => PortX.shapeO x)
def s59 : Sig := ⟨⟨[.dat TI_, .dat TI_, .dat (.int .i64), .dat (.int .i64), .dat (.int .i64), .dat (.pair (.int .i64) (.one TI_))], []⟩, ⟨[.dat (.pair (.int .i64) (.one TI_))], []⟩⟩
def h59 : How s59 := .orc (fun _ x => PortX.nextB x)
def s68 : Sig := ⟨⟨[.dat TB_], []⟩, ⟨[.dat TB_], []⟩⟩
def h68 : How s68 := .orc (fun _ x => BytesX.cloneB x)
def s74 : Sig := ⟨⟨[.dat TI_, .dat TI_], []⟩, ⟨[.dat (.slice TI_)], []⟩⟩
def h74 : How s74 := .orc (fun _ x => PortX.behG x)
def s103 : Sig := ⟨⟨[.dat TI_], []⟩, ⟨[.dat TI_], []⟩⟩
def h103 : How s103 := .orc (fun _ x => PortX.cloneI x)
def s107 : Sig := ⟨⟨[.dat TB_, .dat (.int .u8)], []⟩, ⟨[.dat (.int .i64)], []⟩⟩
def h107 : How s107 := .orc (fun _ x => BytesX.indexB x)
def s110 : Sig := ⟨⟨[.dat TB_, .dat (.int .u8)], []⟩, ⟨[.dat (.int .i64)], []⟩⟩
def h110 : How s110 := .orc (fun _ x => PortX.countB x)
def s135 : Sig := ⟨⟨[.dat TT_], []⟩, ⟨[.ref 0], [.row TB_]⟩⟩
def h135 : How s135 := .orc (fun _ x => NameX.cloneR x)
def s136 : Sig := ⟨⟨[.ref 0, .fnc 137 []], [.row TB_]⟩, ⟨[], [.row TB_]⟩⟩
def h136 : How s136 := .orc (fun _ x => NameX.sortR x)
def s138 : Sig := ⟨⟨[.ref 0, .fnc 106 []], [.row TB_]⟩, ⟨[.ref 1], [.dead, .row TB_]⟩⟩
def h138 : How s138 := .orc (fun _ x => NameX.compactR x)
def s139 : Sig := ⟨⟨[.ref 0, .dat (.int .i64)], [.row TB_]⟩, ⟨[.ref 1], [.dead, .row TB_]⟩⟩
def h139 : How s139 := .orc (fun _ x => NameX.growR x)
def s165 : Sig := ⟨⟨[.dat TB_, .dat TB_], []⟩, ⟨[.dat (.int .i64)], []⟩⟩
def h165 : How s165 := .orc (fun _ x => NameX.cmpB x)
noncomputable def E : Env := {
  fns := [⟨Sig.none, .none⟩,
    ⟨Sig.none, .none⟩,
    ⟨Sig.none, .none⟩,
    ⟨s3, h3⟩,
    ⟨s4, h4⟩,
    ⟨s5, h5⟩,
    ⟨s6, h6⟩,
    ⟨s7, h7⟩,
    ⟨s8, h8⟩,
    ⟨s9, h9⟩,
    ⟨s10, h10⟩,
    ⟨s11, h11⟩,
    ⟨s12, h12⟩,
    ⟨s13, h13⟩,
    ⟨s14, h14⟩,
    ⟨s15, h15⟩,
    ⟨s16, h16⟩,
    ⟨s17, h17⟩,
    ⟨s18, h18⟩,
    ⟨s19, h19⟩,
    ⟨s20, h20⟩,
    ⟨s21, h21⟩,
    ⟨s22, h22⟩,
    ⟨s23, h23⟩,
    ⟨s24, h24⟩,
    ⟨s25, h25⟩,
    ⟨s26, h26⟩,
    ⟨s27, h27⟩,
    ⟨s28, h28⟩,
    ⟨s29, h29⟩,
    ⟨s30, h30⟩,
    ⟨s31, h31⟩,
    ⟨s32, h32⟩,
    ⟨s33, h33⟩,
    ⟨s34, h34⟩,
    ⟨s35, h35⟩,
    ⟨s36, h36⟩,
    ⟨s37, h37⟩,
    ⟨s38, h38⟩,
    ⟨s39, h39⟩,
    ⟨s40, h40⟩,
    ⟨Sig.none, .none⟩,
    ⟨Sig.none, .none⟩,
    ⟨Sig.none, .none⟩,
    ⟨Sig.none, .none⟩,
    ⟨Sig.none, .none⟩,
    ⟨Sig.none, .none⟩,
    ⟨Sig.none, .none⟩,
    ⟨Sig.none, .none⟩,
    ⟨s49, h49⟩,
    ⟨s50, h50⟩,
    ⟨s51, h51⟩,
    ⟨s52, h52⟩,
    ⟨s53, h53⟩,
    ⟨s54, h54⟩,
    ⟨s55, h55⟩,
    ⟨s56, h56⟩,
    ⟨s57, h57⟩,
    ⟨s58, h58⟩,
    ⟨s59, h59⟩,
    ⟨s60, h60⟩,
    ⟨s61, h61⟩,
    ⟨s62, h62⟩,
    ⟨s63, h63⟩,
    ⟨s64, h64⟩,
    ⟨s65, h65⟩,
    ⟨s66, h66⟩,
    ⟨s67, h67⟩,
    ⟨s68, h68⟩,
    ⟨s69, h69⟩,
    ⟨s70, h70⟩,
    ⟨s71, h71⟩,
    ⟨s72, h72⟩,
    ⟨s73, h73⟩,
    ⟨s74, h74⟩,
    ⟨Sig.none, .none⟩,
    ⟨Sig.none, .none⟩,
    ⟨Sig.none, .none⟩,
    ⟨Sig.none, .none⟩,
    ⟨Sig.none, .none⟩,
    ⟨Sig.none, .none⟩,
    ⟨Sig.none, .none⟩,
    ⟨Sig.none, .none⟩,
    ⟨Sig.none, .none⟩,
    ⟨Sig.none, .none⟩,
    ⟨Sig.none, .none⟩,
    ⟨Sig.none, .none⟩,
    ⟨Sig.none, .none⟩,
    ⟨Sig.none, .none⟩,
    ⟨Sig.none, .none⟩,
    ⟨Sig.none, .none⟩,
    ⟨Sig.none, .none⟩,
    ⟨Sig.none, .none⟩,
    ⟨Sig.none, .none⟩,
    ⟨Sig.none, .none⟩,
    ⟨Sig.none, .none⟩,
    ⟨Sig.none, .none⟩,
    ⟨Sig.none, .none⟩,
    ⟨s98, h98⟩,
    ⟨s99, h99⟩,
    ⟨s100, h100⟩,
    ⟨s101, h101⟩,
    ⟨s102, h102⟩,
    ⟨s103, h103⟩,
    ⟨s104, h104⟩,
    ⟨s105, h105⟩,
    ⟨s106, h106⟩,
    ⟨s107, h107⟩,
    ⟨s108, h108⟩,
    ⟨s109, h109⟩,
    ⟨s110, h110⟩,
    ⟨s111, h111⟩,
    ⟨s112, h112⟩,
    ⟨s113, h113⟩,
    ⟨s114, h114⟩,
    ⟨Sig.none, .none⟩,
    ⟨Sig.none, .none⟩,
    ⟨Sig.none, .none⟩,
    ⟨Sig.none, .none⟩,
    ⟨Sig.none, .none⟩,
    ⟨Sig.none, .none⟩,
    ⟨Sig.none, .none⟩,
    ⟨Sig.none, .none⟩,
    ⟨Sig.none, .none⟩,
    ⟨Sig.none, .none⟩,
    ⟨Sig.none, .none⟩,
    ⟨Sig.none, .none⟩,
    ⟨Sig.none, .none⟩,
    ⟨Sig.none, .none⟩,
    ⟨Sig.none, .none⟩,
    ⟨Sig.none, .none⟩,
    ⟨Sig.none, .none⟩,
    ⟨Sig.none, .none⟩,
    ⟨Sig.none, .none⟩,
    ⟨Sig.none, .none⟩,
    ⟨s135, h135⟩,
    ⟨s136, h136⟩,
    ⟨s137, h137⟩,
    ⟨s138, h138⟩,
    ⟨s139, h139⟩,
    ⟨s140, h140⟩,
    ⟨s141, h141⟩,
    ⟨Sig.none, .none⟩,
    ⟨s143, h143⟩,
    ⟨s144, h144⟩,
    ⟨s145, h145⟩,
    ⟨s146, h146⟩,
    ⟨Sig.none, .none⟩,
    ⟨Sig.none, .none⟩,
    ⟨Sig.none, .none⟩,
    ⟨Sig.none, .none⟩,
    ⟨Sig.none, .none⟩,
    ⟨Sig.none, .none⟩,
    ⟨Sig.none, .none⟩,
    ⟨Sig.none, .none⟩,
    ⟨Sig.none, .none⟩,
    ⟨Sig.none, .none⟩,
    ⟨Sig.none, .none⟩,
    ⟨Sig.none, .none⟩,
    ⟨Sig.none, .none⟩,
    ⟨Sig.none, .none⟩,
    ⟨Sig.none, .none⟩,
    ⟨Sig.none, .none⟩,
    ⟨Sig.none, .none⟩,
    ⟨Sig.none, .none⟩,
    ⟨s165, h165⟩,
    ⟨s166, h166⟩,
    ⟨s167, h167⟩,
    ⟨s168, h168⟩,
    ⟨s169, h169⟩,
    ⟨s170, h170⟩],
  tys := [none,
    none,
    some ⟨(.int .i64), 0⟩,
    some ⟨(.int .i64), 0⟩,
    some ⟨.bool, 0⟩,
    some ⟨(.int .u8), 0⟩,
    some ⟨(.int .u8), 0⟩,
    some ⟨(.pair (.int .i64) (.pair (.int .i64) (.pair .bool (.one (.int .u8))))), 0⟩,
    none,
    some ⟨.str, 0⟩,
    none,
    none,
    none,
    none,
    none,
    none,
    none,
    none,
    none,
    none,
    none,
    none,
    some ⟨TB_, 1⟩,
    none,
    some ⟨(.int .i64), 0⟩,
    none,
    none,
    some ⟨TH_, 56⟩,
    none,
    none,
    none,
    some ⟨(.slice (.pair (.int .i64) (.one (.int .i64)))), 16⟩,
    none,
    some ⟨(.pair (.int .i64) (.pair (.int .i64) (.pair (.int .i64) (.pair (.int .i64) (.pair (.slice (.pair (.int .i64) (.one (.int .i64)))) (.one TH_)))))), 0⟩,
    none,
    none,
    none,
    some ⟨(.pair (.int .i64) (.one (.int .i64))), 0⟩,
    none,
    none,
    none,
    none,
    some ⟨(.pair (.int .i64) (.one (.int .i64))), 0⟩,
    none,
    none,
    none,
    none,
    none,
    none,
    none,
    none,
    some ⟨TT_, 24⟩,
    none,
    some ⟨TK_, 0⟩,
    none,
    none,
    some ⟨TI_, 8⟩,
    none,
    some ⟨(.pair TT_ (.pair TT_ (.pair TI_ (.pair TI_ (.pair (.int .i64) (.pair (.int .i64) (.pair TI_ (.one TI_)))))))), 0⟩,
    none,
    none,
    none,
    none,
    none,
    none,
    none,
    none,
    none,
    none,
    none,
    none,
    none,
    none,
    some ⟨(.pair TB_ (.pair (.int .i64) (.one (.int .i64)))), 0⟩,
    none,
    none,
    none,
    none,
    none,
    none,
    none,
    none,
    none,
    none,
    none,
    none,
    none,
    none,
    none,
    none,
    some ⟨(.pair (.int .i64) (.pair (.int .i64) (.pair (.int .i64) (.one (.int .i64))))), 0⟩,
    none,
    none,
    none,
    none,
    none,
    none,
    none,
    none,
    none,
    none,
    none,
    none,
    none,
    none,
    none,
    none,
    none,
    none,
    none,
    none,
    none,
    none,
    none,
    none,
    none,
    none,
    some ⟨(.pair (.int .i64) (.one TI_)), 0⟩,
    none,
    none,
    none,
    none,
    none,
    none,
    none,
    none,
    none,
    none,
    none,
    none,
    none,
    none,
    none,
    some ⟨(.slice TI_), 24⟩,
    none,
    none,
    none,
    none,
    none,
    none,
    none,
    none,
    none,
    some ⟨(.int .u32), 0⟩,
    none,
    none,
    none,
    none,
    none,
    none,
    none,
    none,
    none,
    none,
    none,
    none,
    none,
    none,
    none,
    none,
    none,
    none,
    none,
    none,
    none,
    none,
    none,
    none,
    none,
    none,
    none,
    none,
    none,
    none,
    none,
    none,
    none,
    none,
    none,
    none,
    none,
    none,
    none,
    none,
    none,
    none,
    none,
    none,
    none,
    none,
    none,
    none,
    none,
    none,
    none,
    none,
    none,
    none,
    none,
    none,
    none,
    none,
    none,
    none,
    none,
    none,
    none,
    none,
    none,
    none,
    none,
    none,
    none,
    none,
    none,
    none,
    none,
    none,
    some ⟨(.int .u64), 0⟩,
    some ⟨(.int .u64), 0⟩,
    none,
    none,
    none,
    none,
    some ⟨(.slice TT_), 24⟩,
    none,
    none,
    none,
    none,
    none,
    none,
    none,
    none,
    none,
    none,
    none,
    none,
    none,
    none,
    none,
    none,
    none,
    none,
    none,
    none,
    none,
    none,
    none,
    none,
    none,
    none,
    none,
    none,
    none,
    none,
    none,
    none,
    none,
    none,
    none,
    none,
    none,
    none,
    none,
    none,
    none,
    none,
    none,
    none,
    none,
    none,
    none,
    none,
    none,
    none,
    none,
    none,
    none,
    none,
    none,
    none,
    none,
    none,
    none,
    none,
    none,
    none,
    none,
    none,
    none,
    none,
    none,
    none,
    none,
    none,
    none,
    none,
    none,
    none,
    none,
    none,
    none,
    none,
    none,
    none,
    none],
  vrs := [27],
  vss := [(51, 114), (51, 119), (51, 120), (51, 125), (53, 15), (53, 1000092)] }
theorem tys : tysOK Tryz.prog E.tys = true := by decide +kernel
theorem ok3 (X : ExtRep) : EntryOK Tryz.prog X 3 s3 h3 := ⟨Tryz.func3, rfl, by decide, by decide⟩
theorem ok4 (X : ExtRep) : EntryOK Tryz.prog X 4 s4 h4 := ⟨Tryz.func4, rfl, by decide, by decide⟩
theorem ok5 (X : ExtRep) : EntryOK Tryz.prog X 5 s5 h5 := ⟨Tryz.func5, rfl, by decide, by decide⟩
theorem ok6 (X : ExtRep) : EntryOK Tryz.prog X 6 s6 h6 := ⟨Tryz.func6, rfl, by decide, by decide⟩
theorem ok7 (X : ExtRep) : EntryOK Tryz.prog X 7 s7 h7 := ⟨Tryz.func7, rfl, by decide, by decide⟩
theorem ok8 (X : ExtRep) : EntryOK Tryz.prog X 8 s8 h8 := ⟨Tryz.func8, rfl, by decide, by decide⟩
theorem ok9 (X : ExtRep) : EntryOK Tryz.prog X 9 s9 h9 := ⟨Tryz.func9, rfl, by decide, by decide⟩
theorem ok10 (X : ExtRep) : EntryOK Tryz.prog X 10 s10 h10 := ⟨Tryz.func10, rfl, by decide, by decide⟩
theorem ok11 (X : ExtRep) : EntryOK Tryz.prog X 11 s11 h11 := ⟨Tryz.func11, rfl, by decide, by decide⟩
theorem ok12 (X : ExtRep) : EntryOK Tryz.prog X 12 s12 h12 := ⟨Tryz.func12, rfl, by decide, by decide⟩
theorem ok13 (X : ExtRep) : EntryOK Tryz.prog X 13 s13 h13 := ⟨Tryz.func13, rfl, by decide, by decide⟩
theorem ok14 (X : ExtRep) : EntryOK Tryz.prog X 14 s14 h14 := ⟨Tryz.func14, rfl, by decide, by decide⟩
theorem ok15 (X : ExtRep) : EntryOK Tryz.prog X 15 s15 h15 := ⟨Tryz.func15, rfl, by decide, by decide⟩
theorem ok16 (X : ExtRep) : EntryOK Tryz.prog X 16 s16 h16 := ⟨Tryz.func16, rfl, by decide, by decide⟩
theorem ok17 (X : ExtRep) : EntryOK Tryz.prog X 17 s17 h17 := ⟨Tryz.func17, rfl, by decide, by decide⟩
theorem ok18 (X : ExtRep) : EntryOK Tryz.prog X 18 s18 h18 := ⟨Tryz.func18, rfl, by decide, by decide⟩
theorem ok19 (X : ExtRep) : EntryOK Tryz.prog X 19 s19 h19 := ⟨Tryz.func19, rfl, by decide, by decide⟩
theorem ok20 (X : ExtRep) : EntryOK Tryz.prog X 20 s20 h20 := ⟨Tryz.func20, rfl, by decide, by decide⟩
theorem ok21 (X : ExtRep) : EntryOK Tryz.prog X 21 s21 h21 := ⟨Tryz.func21, rfl, by decide, by decide⟩
theorem ok22 (X : ExtRep) : EntryOK Tryz.prog X 22 s22 h22 := ⟨Tryz.func22, rfl, by decide, by decide⟩
theorem ok23 (X : ExtRep) : EntryOK Tryz.prog X 23 s23 h23 := ⟨Tryz.func23, rfl, by decide, by decide⟩
theorem ok24 (X : ExtRep) : EntryOK Tryz.prog X 24 s24 h24 := ⟨Tryz.func24, rfl, by decide, by decide⟩
theorem ok25 (X : ExtRep) : EntryOK Tryz.prog X 25 s25 h25 := ⟨Tryz.func25, rfl, by decide, by decide⟩
theorem ok26 (X : ExtRep) : EntryOK Tryz.prog X 26 s26 h26 := ⟨Tryz.func26, rfl, by decide, by decide⟩
theorem ok27 (X : ExtRep) : EntryOK Tryz.prog X 27 s27 h27 := ⟨Tryz.func27, rfl, by decide, by decide⟩
theorem ok28 (X : ExtRep) : EntryOK Tryz.prog X 28 s28 h28 := ⟨Tryz.func28, rfl, by decide, by decide⟩
theorem ok29 (X : ExtRep) : EntryOK Tryz.prog X 29 s29 h29 := ⟨Tryz.func29, rfl, by decide, by decide⟩
theorem ok30 (X : ExtRep) : EntryOK Tryz.prog X 30 s30 h30 := ⟨Tryz.func30, rfl, by decide, by decide⟩
theorem ok31 (X : ExtRep) : EntryOK Tryz.prog X 31 s31 h31 := ⟨Tryz.func31, rfl, by decide, by decide⟩
theorem ok32 (X : ExtRep) : EntryOK Tryz.prog X 32 s32 h32 := ⟨Tryz.func32, rfl, by decide, by decide⟩
theorem ok33 (X : ExtRep) : EntryOK Tryz.prog X 33 s33 h33 := ⟨Tryz.func33, rfl, by decide, by decide⟩
theorem ok34 (X : ExtRep) : EntryOK Tryz.prog X 34 s34 h34 := ⟨Tryz.func34, rfl, by decide, by decide⟩
theorem ok35 (X : ExtRep) : EntryOK Tryz.prog X 35 s35 h35 := ⟨Tryz.func35, rfl, by decide, by decide⟩
theorem ok36 (X : ExtRep) : EntryOK Tryz.prog X 36 s36 h36 := ⟨Tryz.func36, rfl, by decide, by decide⟩
theorem ok38 (X : ExtRep) : EntryOK Tryz.prog X 38 s38 h38 := ⟨Tryz.func38, rfl, by decide, by decide⟩
theorem ok39 (X : ExtRep) : EntryOK Tryz.prog X 39 s39 h39 := ⟨Tryz.func39, rfl, by decide, by decide⟩
theorem ok40 (X : ExtRep) : EntryOK Tryz.prog X 40 s40 h40 := ⟨Tryz.func40, rfl, by decide, by decide⟩
theorem ok49 (X : ExtRep) : EntryOK Tryz.prog X 49 s49 h49 := ⟨Tryz.func49, rfl, by decide, by decide⟩
theorem ok50 (X : ExtRep) : EntryOK Tryz.prog X 50 s50 h50 := ⟨Tryz.func50, rfl, by decide, by decide⟩
theorem ok51 (X : ExtRep) : EntryOK Tryz.prog X 51 s51 h51 := ⟨Tryz.func51, rfl, by decide, by decide⟩
theorem ok52 (X : ExtRep) : EntryOK Tryz.prog X 52 s52 h52 := ⟨Tryz.func52, rfl, by decide, by decide⟩
theorem ok53 (X : ExtRep) : EntryOK Tryz.prog X 53 s53 h53 := ⟨Tryz.func53, rfl, by decide, by decide⟩
theorem ok54 (X : ExtRep) : EntryOK Tryz.prog X 54 s54 h54 := ⟨Tryz.func54, rfl, by decide, by decide⟩
theorem ok55 (X : ExtRep) : EntryOK Tryz.prog X 55 s55 h55 := ⟨Tryz.func55, rfl, by decide, by decide⟩
theorem ok56 (X : ExtRep) : EntryOK Tryz.prog X 56 s56 h56 := ⟨Tryz.func56, rfl, by decide, by decide⟩
theorem ok57 (X : ExtRep) : EntryOK Tryz.prog X 57 s57 h57 := ⟨Tryz.func57, rfl, by decide, by decide⟩
theorem ok58 (X : ExtRep) : EntryOK Tryz.prog X 58 s58 h58 := ⟨Tryz.func58, rfl, by decide, by decide⟩
theorem ok60 (X : ExtRep) : EntryOK Tryz.prog X 60 s60 h60 := ⟨Tryz.func60, rfl, by decide, by decide⟩
theorem ok61 (X : ExtRep) : EntryOK Tryz.prog X 61 s61 h61 := ⟨Tryz.func61, rfl, by decide, by decide⟩
theorem ok62 (X : ExtRep) : EntryOK Tryz.prog X 62 s62 h62 := ⟨Tryz.func62, rfl, by decide, by decide⟩
theorem ok63 (X : ExtRep) : EntryOK Tryz.prog X 63 s63 h63 := ⟨Tryz.func63, rfl, by decide, by decide⟩
theorem ok64 (X : ExtRep) : EntryOK Tryz.prog X 64 s64 h64 := ⟨Tryz.func64, rfl, by decide, by decide⟩
theorem ok65 (X : ExtRep) : EntryOK Tryz.prog X 65 s65 h65 := ⟨Tryz.func65, rfl, by decide, by decide⟩
theorem ok66 (X : ExtRep) : EntryOK Tryz.prog X 66 s66 h66 := ⟨Tryz.func66, rfl, by decide, by decide⟩
theorem ok67 (X : ExtRep) : EntryOK Tryz.prog X 67 s67 h67 := ⟨Tryz.func67, rfl, by decide, by decide⟩
theorem ok69 (X : ExtRep) : EntryOK Tryz.prog X 69 s69 h69 := ⟨Tryz.func69, rfl, by decide, by decide⟩
theorem ok70 (X : ExtRep) : EntryOK Tryz.prog X 70 s70 h70 := ⟨Tryz.func70, rfl, by decide, by decide⟩
theorem ok71 (X : ExtRep) : EntryOK Tryz.prog X 71 s71 h71 := ⟨Tryz.func71, rfl, by decide, by decide⟩
theorem ok72 (X : ExtRep) : EntryOK Tryz.prog X 72 s72 h72 := ⟨Tryz.func72, rfl, by decide, by decide⟩
theorem ok73 (X : ExtRep) : EntryOK Tryz.prog X 73 s73 h73 := ⟨Tryz.func73, rfl, by decide, by decide⟩
theorem ok98 (X : ExtRep) : EntryOK Tryz.prog X 98 s98 h98 := ⟨Tryz.func98, rfl, by decide, by decide⟩
theorem ok99 (X : ExtRep) : EntryOK Tryz.prog X 99 s99 h99 := ⟨Tryz.func99, rfl, by decide, by decide⟩
theorem ok100 (X : ExtRep) : EntryOK Tryz.prog X 100 s100 h100 := ⟨Tryz.func100, rfl, by decide, by decide⟩
theorem ok101 (X : ExtRep) : EntryOK Tryz.prog X 101 s101 h101 := ⟨Tryz.func101, rfl, by decide, by decide⟩
theorem ok102 (X : ExtRep) : EntryOK Tryz.prog X 102 s102 h102 := ⟨Tryz.func102, rfl, by decide, by decide⟩
theorem ok104 (X : ExtRep) : EntryOK Tryz.prog X 104 s104 h104 := ⟨Tryz.func104, rfl, by decide, by decide⟩
theorem ok105 (X : ExtRep) : EntryOK Tryz.prog X 105 s105 h105 := ⟨Tryz.func105, rfl, by decide, by decide⟩
theorem ok106 (X : ExtRep) : EntryOK Tryz.prog X 106 s106 h106 := ⟨Tryz.func106, rfl, by decide, by decide⟩
theorem ok108 (X : ExtRep) : EntryOK Tryz.prog X 108 s108 h108 := ⟨Tryz.func108, rfl, by decide, by decide⟩
theorem ok109 (X : ExtRep) : EntryOK Tryz.prog X 109 s109 h109 := ⟨Tryz.func109, rfl, by decide, by decide⟩
theorem ok111 (X : ExtRep) : EntryOK Tryz.prog X 111 s111 h111 := ⟨Tryz.func111, rfl, by decide, by decide⟩
theorem ok112 (X : ExtRep) : EntryOK Tryz.prog X 112 s112 h112 := ⟨Tryz.func112, rfl, by decide, by decide⟩
theorem ok113 (X : ExtRep) : EntryOK Tryz.prog X 113 s113 h113 := ⟨Tryz.func113, rfl, by decide, by decide⟩
theorem ok114 (X : ExtRep) : EntryOK Tryz.prog X 114 s114 h114 := ⟨Tryz.func114, rfl, by decide, by decide⟩
theorem ok137 (X : ExtRep) : EntryOK Tryz.prog X 137 s137 h137 := ⟨Tryz.func137, rfl, by decide, by decide⟩
theorem ok140 (X : ExtRep) : EntryOK Tryz.prog X 140 s140 h140 := ⟨Tryz.func140, rfl, by decide, by decide⟩
theorem ok141 (X : ExtRep) : EntryOK Tryz.prog X 141 s141 h141 := ⟨Tryz.func141, rfl, by decide, by decide⟩
theorem ok143 (X : ExtRep) : EntryOK Tryz.prog X 143 s143 h143 := ⟨Tryz.func143, rfl, by decide, by decide⟩
theorem ok144 (X : ExtRep) : EntryOK Tryz.prog X 144 s144 h144 := ⟨Tryz.func144, rfl, by decide, by decide⟩
theorem ok145 (X : ExtRep) : EntryOK Tryz.prog X 145 s145 h145 := ⟨Tryz.func145, rfl, by decide, by decide⟩
theorem ok146 (X : ExtRep) : EntryOK Tryz.prog X 146 s146 h146 := ⟨Tryz.func146, rfl, by decide, by decide⟩
theorem ok166 (X : ExtRep) : EntryOK Tryz.prog X 166 s166 h166 := ⟨Tryz.func166, rfl, by decide, by decide⟩
theorem ok167 (X : ExtRep) : EntryOK Tryz.prog X 167 s167 h167 := ⟨Tryz.func167, rfl, by decide, by decide⟩
theorem ok168 (X : ExtRep) : EntryOK Tryz.prog X 168 s168 h168 := ⟨Tryz.func168, rfl, by decide, by decide⟩
theorem ok169 (X : ExtRep) : EntryOK Tryz.prog X 169 s169 h169 := ⟨Tryz.func169, rfl, by decide, by decide⟩
theorem ok170 (X : ExtRep) : EntryOK Tryz.prog X 170 s170 h170 := ⟨Tryz.func170, rfl, by decide, by decide⟩
def r3 (f4 : Unit → Option (Bool)) (f5 : LI_ → LI_ → Option (LI_ × Int × Int)) (f6 : LI_ → LI_ → Option (LI_ × Int × Int)) (rest : St → Option (Bool)) (a0 : LI_) (a1 : LI_) : Option (Bool) :=
Option.bind (f4 ()) fun y1 =>
let v2 : Bool := !y1
bif v2 then
some false
else
let v3 : Int := (a0.length : Int)
let v4 : Bool := decide (v3 > (400 : Int))
bif v4 == false then
let v5 : Int := (a1.length : Int)
let v6 : Bool := decide (v5 > (60 : Int))
bif v6 then
some true
else
Option.bind (f5 a0 a1) fun y7 =>
Option.bind (f6 a0 a1) fun y8 =>
rest ⟨[.sl (.int .u8) (a0), .sl (.int .u8) (a1), .undef, .undef, .bool (false), .sl (.int .u8) (y7.1), .int .i64 (y7.2.1), .int .i64 (y7.2.2), .sl (.int .u8) (y8.1), .int .i64 (y8.2.1), .int .i64 (y8.2.2), .undef, .undef, .undef, .undef, .undef, .undef, .undef, .bool (y1), .bool (v2), .sl (.int .u8) (a0), .int .i64 (v3), .bool (v4), .bool (false), .sl (.int .u8) (a1), .int .i64 (v5), .bool (v6), .bool (v6), .tcons (.sl (.int .u8) (y7.1)) (.tcons (.int .i64 (y7.2.1)) (.tcons (.int .i64 (y7.2.2)) (.tup0))), .sl (.int .u8) (a0), .sl (.int .u8) (a1), .tcons (.sl (.int .u8) (y7.1)) (.tcons (.int .i64 (y7.2.1)) (.tcons (.int .i64 (y7.2.2)) (.tup0))), .sl (.int .u8) (y7.1), .int .i64 (y7.2.1), .int .i64 (y7.2.2), .tcons (.sl (.int .u8) (y8.1)) (.tcons (.int .i64 (y8.2.1)) (.tcons (.int .i64 (y8.2.2)) (.tup0))), .sl (.int .u8) (a0), .sl (.int .u8) (a1), .tcons (.sl (.int .u8) (y8.1)) (.tcons (.int .i64 (y8.2.1)) (.tcons (.int .i64 (y8.2.2)) (.tup0))), .sl (.int .u8) (y8.1), .int .i64 (y8.2.1), .int .i64 (y8.2.2), .undef, .undef, .undef, .undef, .undef, .undef, .undef, .undef, .undef, .undef, .undef, .undef, .undef, .undef, .undef, .undef, .undef, .undef, .undef, .undef, .undef, .undef, .undef, .undef, .undef, .undef, .undef, .undef, .undef, .undef, .undef, .undef, .undef, .undef, .undef, .undef, .undef, .undef, .undef, .undef, .undef, .undef, .undef, .undef, .undef, .undef, .undef, .undef, .undef, .undef, .undef, .undef, .undef, .undef, .undef, .undef, .undef, .undef, .undef, .undef, .undef, .undef, .undef, .undef, .undef, .undef, .undef, .undef, .undef, .undef, .undef, .undef, .undef, .undef, .undef, .undef, .undef, .undef, .undef, .undef, .undef, .undef, .undef, .undef, .undef, .undef, .undef, .undef, .undef, .undef, .undef, .undef, .undef, .undef, .undef, .undef, .undef, .undef, .undef, .undef, .undef, .undef, .undef, .undef, .undef, .undef], []⟩
else
some true
def r5 (f11 : LI_ → Option (Int × HK_ × Int × Int)) (f12 : Int → HK_ → LI_ → Option (LI_ × Int)) (a0 : LI_) (a1 : LI_) : Option (LI_ × Int × Int) :=
Option.bind (f11 a0) fun y1 =>
let v2 : Bool := !decide (y1.2.2.2 = (0 : Int))
bif v2 then
some (([] : List Int), y1.2.2.1, y1.2.2.2)
else
Option.bind (f12 y1.1 y1.2.1 a1) fun y3 =>
some (y3.1, (0 : Int), y3.2)
def r6 (f11 : LI_ → Option (Int × HK_ × Int × Int)) (f12 : Int → HK_ → LI_ → Option (LI_ × Int)) (f13 : HK_ → Option (HK_ × Int)) (a0 : LI_) (a1 : LI_) : Option (LI_ × Int × Int) :=
Option.bind (f11 a0) fun y1 =>
let v2 : Bool := !decide (y1.2.2.2 = (0 : Int))
bif v2 then
some (([] : List Int), y1.2.2.1, y1.2.2.2)
else
Option.bind (f13 y1.2.1) fun y3 =>
let v4 : Bool := !decide (y3.2 = (0 : Int))
bif v4 then
some (([] : List Int), (0 : Int), y3.2)
else
Option.bind (f12 y1.1 y3.1 a1) fun y5 =>
some (y5.1, (0 : Int), y5.2)
def F7_0 (f14 : Int → Option (ByteArray)) (f15 : LI_ → Int → Int → Option (Bool)) (f16 : LI_ → Int → Option (Int × Int × Int × Int)) (f17 : Int → LI_ → Int → Option (LI_ × Int)) (lp2 : (LI_ × Int × Int × Int × Int × Int × HK_ × (Int × (LL_ × LL_))) → Option ((LI_ × Int × Int × Int × Int × Int × HK_ × (Int × (LL_ × LL_))) ⊕ (Int × HK_ × Int × Int))) (self : (LI_ × Int × Int × HK_) → Option ((LI_ × Int × Int × HK_) ⊕ (Int × HK_ × Int × Int))) (z23 : LI_ × Int × Int × HK_) : Option ((LI_ × Int × Int × HK_) ⊕ (Int × HK_ × Int × Int)) :=
Option.bind (f15 z23.1 z23.2.2.1 (64 : Int)) fun y24 =>
bif y24 then
Option.bind (f16 z23.1 z23.2.2.1) fun y25 =>
let v26 : Bool := decide (y25.2.2.2 < (0 : Int))
bif v26 == false then
let v27 : Int := IntKind.wrap .i64 (y25.2.1 + y25.2.2.1)
let v28 : Bool := decide (v27 = (0 : Int))
bif v28 == false then
let v29 : Int := (z23.2.2.2.length : Int)
let v30 : Bool := decide (v29 > (0 : Int))
bif v30 == true then
let v31 : Int := (z23.2.2.2.length : Int)
let v32 : Int := IntKind.wrap .i64 (v31 - (1 : Int))
if 0 ≤ v32 ∧ v32 < (z23.2.2.2.length : Int) then
let v33 : Int := (z23.2.2.2.getD v32.toNat ((0 : Int), (([] : List LI_), ([] : List LI_)))).1
let v34 : Int := IntKind.wrap .i64 (y25.1 - v33)
let v35 : Int := (z23.2.2.2.length : Int)
let v36 : Int := IntKind.wrap .i64 (v35 - (1 : Int))
if 0 ≤ v36 ∧ v36 < (z23.2.2.2.length : Int) then
let v37 : LL_ := (z23.2.2.2.getD v36.toNat ((0 : Int), (([] : List LI_), ([] : List LI_)))).2.1
let v38 : Int := (v37.length : Int)
let v39 : Bool := decide (v34 ≤ v38)
bif v39 then
some (.inr ((0 : Int), ([] : List (Int × (LL_ × LL_))), z23.2.2.1, (4 : Int)))
else
let v40 : (Int × (LL_ × LL_)) := (y25.1, (([] : List LI_), ([] : List LI_)))
Option.bind (lp2 (z23.1, z23.2.1, y25.2.2.2, y25.2.1, y25.2.2.1, (0 : Int), z23.2.2.2, v40)) fun s41 => onSum s41 (fun y42 =>
let v58 : HK_ := ([y42.2.2.2.2.2.2.2] : List (Int × (LL_ × LL_)))
if (y42.2.2.2.2.2.2.1.length + v58.length) * 56 ≤ 140737488355328 ∧ y42.2.2.2.2.2.2.1.length + v58.length ≤ 140737488355328 then
let v59 : HK_ := y42.2.2.2.2.2.2.1 ++ v58
self (y42.1, y42.2.1, y42.2.2.1, v59)
else none) (fun o57 => some (.inr o57))
else none
else none
else
let v60 : (Int × (LL_ × LL_)) := (y25.1, (([] : List LI_), ([] : List LI_)))
Option.bind (lp2 (z23.1, z23.2.1, y25.2.2.2, y25.2.1, y25.2.2.1, (0 : Int), z23.2.2.2, v60)) fun s61 => onSum s61 (fun y62 =>
let v64 : HK_ := ([y62.2.2.2.2.2.2.2] : List (Int × (LL_ × LL_)))
if (y62.2.2.2.2.2.2.1.length + v64.length) * 56 ≤ 140737488355328 ∧ y62.2.2.2.2.2.2.1.length + v64.length ≤ 140737488355328 then
let v65 : HK_ := y62.2.2.2.2.2.2.1 ++ v64
self (y62.1, y62.2.1, y62.2.2.1, v65)
else none) (fun o63 => some (.inr o63))
else
some (.inr ((0 : Int), ([] : List (Int × (LL_ × LL_))), z23.2.2.1, (4 : Int)))
else
some (.inr ((0 : Int), ([] : List (Int × (LL_ × LL_))), z23.2.2.1, (4 : Int)))
else
some (.inl (z23.1, z23.2.1, z23.2.2.1, z23.2.2.2))
def F7_1 (f14 : Int → Option (ByteArray)) (f15 : LI_ → Int → Int → Option (Bool)) (f16 : LI_ → Int → Option (Int × Int × Int × Int)) (f17 : Int → LI_ → Int → Option (LI_ × Int)) (self : (LI_ × Int × Int × Int) → Option ((LI_ × Int × Int × Int) ⊕ (Int × HK_ × Int × Int))) (z3 : LI_ × Int × Int × Int) : Option ((LI_ × Int × Int × Int) ⊕ (Int × HK_ × Int × Int)) :=
let v4 : Bool := decide (z3.2.2.2 < (2 : Int))
bif v4 then
Option.bind (f14 z3.2.2.2) fun y5 =>
if (⟨#[116, 97, 116, 116, 105, 110, 103, 32, 49, 32]⟩ : ByteArray).size + y5.size ≤ 140737488355328 then
let v6 : ByteArray := (⟨#[116, 97, 116, 116, 105, 110, 103, 32, 49, 32]⟩ : ByteArray) ++ y5
if v6.size + (⟨#[10]⟩ : ByteArray).size ≤ 140737488355328 then
let v7 : ByteArray := v6 ++ (⟨#[10]⟩ : ByteArray)
let v8 : Int := (z3.1.length : Int)
let v9 : Int := (v7.size : Int)
let v10 : Bool := decide (v8 ≥ v9)
bif v10 == true then
let v11 : Int := (v7.size : Int)
if 0 ≤ (0 : Int) ∧ (0 : Int) ≤ v11 ∧ v11 ≤ (z3.1.length : Int) then
let v12 : LI_ := cut z3.1 (0 : Int) v11
let v13 : ByteArray := bytesStr v12
let v14 : Bool := strEq v13 v7
bif v14 then
let v15 : Int := (v7.size : Int)
let v16 : Int := IntKind.wrap .i64 (z3.2.2.2 + (1 : Int))
self (z3.1, z3.2.2.2, v15, v16)
else
let v17 : Int := IntKind.wrap .i64 (z3.2.2.2 + (1 : Int))
self (z3.1, z3.2.1, z3.2.2.1, v17)
else none
else
let v18 : Int := IntKind.wrap .i64 (z3.2.2.2 + (1 : Int))
self (z3.1, z3.2.1, z3.2.2.1, v18)
else none
else none
else
some (.inl (z3.1, z3.2.1, z3.2.2.1, z3.2.2.2))
def F7_2 (f14 : Int → Option (ByteArray)) (f15 : LI_ → Int → Int → Option (Bool)) (f16 : LI_ → Int → Option (Int × Int × Int × Int)) (f17 : Int → LI_ → Int → Option (LI_ × Int)) (self : (LI_ × Int × Int × Int × Int × Int × HK_ × (Int × (LL_ × LL_))) → Option ((LI_ × Int × Int × Int × Int × Int × HK_ × (Int × (LL_ × LL_))) ⊕ (Int × HK_ × Int × Int))) (z43 : LI_ × Int × Int × Int × Int × Int × HK_ × (Int × (LL_ × LL_))) : Option ((LI_ × Int × Int × Int × Int × Int × HK_ × (Int × (LL_ × LL_))) ⊕ (Int × HK_ × Int × Int)) :=
let v44 : Int := IntKind.wrap .i64 (z43.2.2.2.1 + z43.2.2.2.2.1)
let v45 : Bool := decide (z43.2.2.2.2.2.1 < v44)
bif v45 then
Option.bind (f17 z43.2.1 z43.1 z43.2.2.1) fun y46 =>
let v47 : Bool := decide (y46.2 < (0 : Int))
bif v47 then
some (.inr ((0 : Int), ([] : List (Int × (LL_ × LL_))), z43.2.2.1, (4 : Int)))
else
let v48 : Bool := decide (z43.2.2.2.2.2.1 < z43.2.2.2.1)
bif v48 then
let v49 : LL_ := ([y46.1] : List LI_)
if (z43.2.2.2.2.2.2.2.2.1.length + v49.length) * 24 ≤ 140737488355328 ∧ z43.2.2.2.2.2.2.2.2.1.length + v49.length ≤ 140737488355328 then
let v50 : LL_ := z43.2.2.2.2.2.2.2.2.1 ++ v49
let v51 : (Int × (LL_ × LL_)) := (z43.2.2.2.2.2.2.2.1, (v50, z43.2.2.2.2.2.2.2.2.2))
let v52 : Int := IntKind.wrap .i64 (z43.2.2.2.2.2.1 + (1 : Int))
self (z43.1, z43.2.1, y46.2, z43.2.2.2.1, z43.2.2.2.2.1, v52, z43.2.2.2.2.2.2.1, v51)
else none
else
let v53 : LL_ := ([y46.1] : List LI_)
if (z43.2.2.2.2.2.2.2.2.2.length + v53.length) * 24 ≤ 140737488355328 ∧ z43.2.2.2.2.2.2.2.2.2.length + v53.length ≤ 140737488355328 then
let v54 : LL_ := z43.2.2.2.2.2.2.2.2.2 ++ v53
let v55 : (Int × (LL_ × LL_)) := (z43.2.2.2.2.2.2.2.1, (z43.2.2.2.2.2.2.2.2.1, v54))
let v56 : Int := IntKind.wrap .i64 (z43.2.2.2.2.2.1 + (1 : Int))
self (z43.1, z43.2.1, y46.2, z43.2.2.2.1, z43.2.2.2.2.1, v56, z43.2.2.2.2.2.2.1, v55)
else none
else
some (.inl (z43.1, z43.2.1, z43.2.2.1, z43.2.2.2.1, z43.2.2.2.2.1, z43.2.2.2.2.2.1, z43.2.2.2.2.2.2.1, z43.2.2.2.2.2.2.2))
def r7 (f14 : Int → Option (ByteArray)) (f15 : LI_ → Int → Int → Option (Bool)) (f16 : LI_ → Int → Option (Int × Int × Int × Int)) (f17 : Int → LI_ → Int → Option (LI_ × Int)) (lp0 : (LI_ × Int × Int × HK_) → Option ((LI_ × Int × Int × HK_) ⊕ (Int × HK_ × Int × Int))) (lp1 : (LI_ × Int × Int × Int) → Option ((LI_ × Int × Int × Int) ⊕ (Int × HK_ × Int × Int))) (lp2 : (LI_ × Int × Int × Int × Int × Int × HK_ × (Int × (LL_ × LL_))) → Option ((LI_ × Int × Int × Int × Int × Int × HK_ × (Int × (LL_ × LL_))) ⊕ (Int × HK_ × Int × Int))) (a0 : LI_) : Option (Int × HK_ × Int × Int) :=
Option.bind (lp1 (a0, (-1 : Int), (0 : Int), (0 : Int))) fun s1 => onSum s1 (fun y2 =>
let v20 : Bool := decide (y2.2.1 < (0 : Int))
bif v20 then
some ((0 : Int), ([] : List (Int × (LL_ × LL_))), (0 : Int), (4 : Int))
else
Option.bind (lp0 (y2.1, y2.2.1, y2.2.2.1, ([] : List (Int × (LL_ × LL_))))) fun s21 => onSum s21 (fun y22 =>
Option.bind (f15 y22.1 y22.2.2.1 (46 : Int)) fun y67 =>
let v68 : Bool := !y67
bif v68 == false then
let v69 : Int := IntKind.wrap .i64 (y22.2.2.1 + (1 : Int))
Option.bind (f15 y22.1 v69 (10 : Int)) fun y70 =>
let v71 : Bool := !y70
bif v71 then
some ((0 : Int), ([] : List (Int × (LL_ × LL_))), y22.2.2.1, (4 : Int))
else
let v72 : Int := IntKind.wrap .i64 (y22.2.2.1 + (2 : Int))
let v73 : Int := (y22.1.length : Int)
let v74 : Bool := decide (v72 < v73)
bif v74 then
let v75 : Int := IntKind.wrap .i64 (y22.2.2.1 + (2 : Int))
some ((0 : Int), ([] : List (Int × (LL_ × LL_))), v75, (4 : Int))
else
some (y22.2.1, y22.2.2.2, (0 : Int), (0 : Int))
else
some ((0 : Int), ([] : List (Int × (LL_ × LL_))), y22.2.2.1, (4 : Int))) (fun o66 => some o66)) (fun o19 => some o19)
def F11_0 (f25 : (LI_ × (Int × Int)) → Option (Bool × (LI_ × (Int × Int)))) (f26 : (LI_ × (Int × Int)) → Option (Int × Int × Int × Bool × (LI_ × (Int × Int)))) (f27 : Int → (LI_ × (Int × Int)) → Option (LL_ × Int × Bool × (LI_ × (Int × Int)))) (f28 : ByteArray → (LI_ × (Int × Int)) → Option (Bool × (LI_ × (Int × Int)))) (self : (LI_ × Int × HK_ × (LI_ × (Int × Int))) → Option ((LI_ × Int × HK_ × (LI_ × (Int × Int))) ⊕ (Int × HK_ × Int × Int))) (z6 : LI_ × Int × HK_ × (LI_ × (Int × Int))) : Option ((LI_ × Int × HK_ × (LI_ × (Int × Int))) ⊕ (Int × HK_ × Int × Int)) :=
let v7 : Int := (z6.1.length : Int)
let v8 : Bool := decide (z6.2.2.2.2.1 < v7)
bif v8 == true then
if 0 ≤ z6.2.2.2.2.1 ∧ z6.2.2.2.2.1 < (z6.1.length : Int) then
let v9 : Int := z6.1.getD z6.2.2.2.2.1.toNat (0 : Int)
let v10 : Bool := decide (v9 = (64 : Int))
bif v10 then
let v11 : (Int × (LL_ × LL_)) := ((0 : Int), (([] : List LI_), ([] : List LI_)))
Option.bind (f26 z6.2.2.2) fun y12 =>
let v13 : Bool := !y12.2.2.2.1
bif v13 == false then
let v14 : Bool := decide (y12.1 ≤ z6.2.1)
bif v14 == false then
let v15 : Int := IntKind.wrap .i64 (y12.2.1 + y12.2.2.1)
let v16 : Bool := decide (v15 = (0 : Int))
bif v16 then
some (.inr ((0 : Int), ([] : List (Int × (LL_ × LL_))), z6.2.2.2.2.1, (4 : Int)))
else
let v17 : (Int × (LL_ × LL_)) := (y12.1, v11.2)
Option.bind (f27 y12.2.1 y12.2.2.2.2) fun y18 =>
let v19 : (Int × (LL_ × LL_)) := (v17.1, (y18.1, v17.2.2))
let v20 : Bool := !y18.2.2.1
bif v20 then
some (.inr ((0 : Int), ([] : List (Int × (LL_ × LL_))), y18.2.1, (4 : Int)))
else
Option.bind (f27 y12.2.2.1 y18.2.2.2) fun y21 =>
let v22 : (Int × (LL_ × LL_)) := (v19.1, (v19.2.1, y21.1))
let v23 : Bool := !y21.2.2.1
bif v23 then
some (.inr ((0 : Int), ([] : List (Int × (LL_ × LL_))), y21.2.1, (4 : Int)))
else
let v24 : HK_ := ([v22] : List (Int × (LL_ × LL_)))
if (z6.2.2.1.length + v24.length) * 56 ≤ 140737488355328 ∧ z6.2.2.1.length + v24.length ≤ 140737488355328 then
let v25 : HK_ := z6.2.2.1 ++ v24
let v26 : Int := IntKind.wrap .i64 (y12.1 + y12.2.1)
self (z6.1, v26, v25, y21.2.2.2)
else none
else
some (.inr ((0 : Int), ([] : List (Int × (LL_ × LL_))), z6.2.2.2.2.1, (4 : Int)))
else
some (.inr ((0 : Int), ([] : List (Int × (LL_ × LL_))), z6.2.2.2.2.1, (4 : Int)))
else
some (.inl (z6.1, z6.2.1, z6.2.2.1, z6.2.2.2))
else none
else
some (.inl (z6.1, z6.2.1, z6.2.2.1, z6.2.2.2))
def r11 (f25 : (LI_ × (Int × Int)) → Option (Bool × (LI_ × (Int × Int)))) (f26 : (LI_ × (Int × Int)) → Option (Int × Int × Int × Bool × (LI_ × (Int × Int)))) (f27 : Int → (LI_ × (Int × Int)) → Option (LL_ × Int × Bool × (LI_ × (Int × Int)))) (f28 : ByteArray → (LI_ × (Int × Int)) → Option (Bool × (LI_ × (Int × Int)))) (lp0 : (LI_ × Int × HK_ × (LI_ × (Int × Int))) → Option ((LI_ × Int × HK_ × (LI_ × (Int × Int))) ⊕ (Int × HK_ × Int × Int))) (a0 : LI_) : Option (Int × HK_ × Int × Int) :=
let v1 : (LI_ × (Int × Int)) := (a0, ((0 : Int), (0 : Int)))
Option.bind (f25 v1) fun y2 =>
let v3 : Bool := !y2.1
bif v3 then
some ((0 : Int), ([] : List (Int × (LL_ × LL_))), (0 : Int), (4 : Int))
else
Option.bind (lp0 (a0, (-1 : Int), ([] : List (Int × (LL_ × LL_))), y2.2)) fun s4 => onSum s4 (fun y5 =>
Option.bind (f28 (⟨#[46, 10]⟩ : ByteArray) y5.2.2.2) fun y28 =>
let v29 : Bool := !y28.1
bif v29 then
some ((0 : Int), ([] : List (Int × (LL_ × LL_))), y5.2.2.2.2.1, (4 : Int))
else
let v30 : Int := (y5.1.length : Int)
let v31 : Bool := decide (y28.2.2.1 < v30)
bif v31 then
some ((0 : Int), ([] : List (Int × (LL_ × LL_))), y28.2.2.1, (4 : Int))
else
some (y28.2.2.2, y5.2.2.1, (0 : Int), (0 : Int))) (fun o27 => some o27)
def r12 (f29 : Int → LI_ → Option (LL_ × Int)) (f30 : HK_ → LL_ → Option (LL_ × Int)) (f31 : LL_ → Option (LI_)) (a0 : Int) (a1 : HK_) (a2 : LI_) : Option (LI_ × Int) :=
Option.bind (f29 a0 a2) fun y1 =>
let v2 : Bool := !decide (y1.2 = (0 : Int))
bif v2 then
some (([] : List Int), y1.2)
else
Option.bind (f30 a1 y1.1) fun y3 =>
let v4 : Bool := !decide (y3.2 = (0 : Int))
bif v4 then
some (([] : List Int), y3.2)
else
Option.bind (f31 y3.1) fun y5 =>
some (y5, (0 : Int))
def F13_0 (f32 : HK_ → Option (Bool)) (f33 : LL_ → LL_ → Option (LL_)) (self : (Int × HK_ × Int × Int × HK_) → Option ((Int × HK_ × Int × Int × HK_) ⊕ (HK_ × Int))) (z6 : Int × HK_ × Int × Int × HK_) : Option ((Int × HK_ × Int × Int × HK_) ⊕ (HK_ × Int)) :=
let v7 : Bool := decide (z6.2.2.2.1 < z6.2.2.1)
bif v7 then
if 0 ≤ z6.2.2.2.1 ∧ z6.2.2.2.1 < (z6.2.1.length : Int) then
let v8 : (Int × (LL_ × LL_)) := z6.2.1.getD z6.2.2.2.1.toNat ((0 : Int), (([] : List LI_), ([] : List LI_)))
let v9 : Int := IntKind.wrap .i64 (v8.1 + z6.1)
let v10 : Bool := decide (v9 > (1048576 : Int))
bif v10 then
some (.inr (([] : List (Int × (LL_ × LL_))), (2 : Int)))
else
Option.bind (f33 v8.2.2 ([] : List LI_)) fun y11 =>
Option.bind (f33 v8.2.1 ([] : List LI_)) fun y12 =>
let v13 : (Int × (LL_ × LL_)) := (v9, (y11, y12))
let v14 : HK_ := ([v13] : List (Int × (LL_ × LL_)))
if (z6.2.2.2.2.length + v14.length) * 56 ≤ 140737488355328 ∧ z6.2.2.2.2.length + v14.length ≤ 140737488355328 then
let v15 : HK_ := z6.2.2.2.2 ++ v14
let v16 : Int := (v8.2.2.length : Int)
let v17 : Int := (v8.2.1.length : Int)
let v18 : Int := IntKind.wrap .i64 (v16 - v17)
let v19 : Int := IntKind.wrap .i64 (z6.1 + v18)
let v20 : Int := IntKind.wrap .i64 (z6.2.2.2.1 + (1 : Int))
self (v19, z6.2.1, z6.2.2.1, v20, v15)
else none
else none
else
some (.inl (z6.1, z6.2.1, z6.2.2.1, z6.2.2.2.1, z6.2.2.2.2))
def r13 (f32 : HK_ → Option (Bool)) (f33 : LL_ → LL_ → Option (LL_)) (lp0 : (Int × HK_ × Int × Int × HK_) → Option ((Int × HK_ × Int × Int × HK_) ⊕ (HK_ × Int))) (a0 : HK_) : Option (HK_ × Int) :=
Option.bind (f32 a0) fun y1 =>
let v2 : Bool := !y1
bif v2 then
some (([] : List (Int × (LL_ × LL_))), (1 : Int))
else
let v3 : Int := (a0.length : Int)
Option.bind (lp0 ((0 : Int), a0, v3, (0 : Int), ([] : List (Int × (LL_ × LL_))))) fun s4 => onSum s4 (fun y5 =>
some (y5.2.2.2.2, (0 : Int))) (fun o21 => some o21)
def r14 (a0 : Int) : Option (ByteArray) :=
let v1 : Bool := decide (a0 = (0 : Int))
bif v1 then
some (⟨#[98, 121, 116, 101, 115]⟩ : ByteArray)
else
let v2 : Bool := decide (a0 = (1 : Int))
bif v2 then
some (⟨#[108, 105, 110, 101, 115]⟩ : ByteArray)
else
some (⟨#[]⟩ : ByteArray)
def r15 (a0 : LI_) (a1 : Int) (a2 : Int) : Option (Bool) :=
let v1 : Bool := decide (a1 ≥ (0 : Int))
bif v1 == true then
let v2 : Int := (a0.length : Int)
let v3 : Bool := decide (a1 < v2)
bif v3 == true then
if 0 ≤ a1 ∧ a1 < (a0.length : Int) then
let v4 : Int := a0.getD a1.toNat (0 : Int)
let v5 : Bool := decide (v4 = a2)
some v5
else none
else
some false
else
some false
def r16 (f15 : LI_ → Int → Int → Option (Bool)) (f34 : LI_ → Int → Int → Option (Int × Int)) (a0 : LI_) (a1 : Int) : Option (Int × Int × Int × Int) :=
let v1 : Int := IntKind.wrap .i64 (a1 + (1 : Int))
Option.bind (f34 a0 v1 (1048576 : Int)) fun y2 =>
Option.bind (f15 a0 y2.2 (32 : Int)) fun y3 =>
let v4 : Bool := !y3
bif v4 then
some ((0 : Int), (0 : Int), (0 : Int), (-1 : Int))
else
let v5 : Int := IntKind.wrap .i64 (y2.2 + (1 : Int))
Option.bind (f34 a0 v5 (1048576 : Int)) fun y6 =>
Option.bind (f15 a0 y6.2 (32 : Int)) fun y7 =>
let v8 : Bool := !y7
bif v8 then
some ((0 : Int), (0 : Int), (0 : Int), (-1 : Int))
else
let v9 : Int := IntKind.wrap .i64 (y6.2 + (1 : Int))
Option.bind (f34 a0 v9 (1048576 : Int)) fun y10 =>
Option.bind (f15 a0 y10.2 (10 : Int)) fun y11 =>
let v12 : Bool := !y11
bif v12 then
some ((0 : Int), (0 : Int), (0 : Int), (-1 : Int))
else
let v13 : Int := IntKind.wrap .i64 (y10.2 + (1 : Int))
some (y2.1, y6.1, y10.1, v13)
def r17 (f15 : LI_ → Int → Int → Option (Bool)) (f34 : LI_ → Int → Int → Option (Int × Int)) (f35 : Int → LI_ → Option (Bool)) (a0 : Int) (a1 : LI_) (a2 : Int) : Option (LI_ × Int) :=
Option.bind (f34 a1 a2 (1048576 : Int)) fun y1 =>
Option.bind (f15 a1 y1.2 (58 : Int)) fun y2 =>
let v3 : Bool := !y2
bif v3 == false then
let v4 : Int := (a1.length : Int)
let v5 : Int := IntKind.wrap .i64 (v4 - y1.2)
let v6 : Int := IntKind.wrap .i64 (v5 - (1 : Int))
let v7 : Bool := decide (v6 < y1.1)
bif v7 then
some (([] : List Int), (-1 : Int))
else
let v8 : Int := IntKind.wrap .i64 (y1.2 + (1 : Int))
let v9 : Int := IntKind.wrap .i64 (v8 + y1.1)
Option.bind (f15 a1 v9 (10 : Int)) fun y10 =>
let v11 : Bool := !y10
bif v11 == false then
let v12 : Int := IntKind.wrap .i64 (y1.2 + (1 : Int))
if 0 ≤ v12 ∧ v12 ≤ v9 ∧ v9 ≤ (a1.length : Int) then
let v13 : LI_ := cut a1 v12 v9
Option.bind (f35 a0 v13) fun y14 =>
let v15 : Bool := !y14
bif v15 then
some (([] : List Int), (-1 : Int))
else
let v16 : Int := IntKind.wrap .i64 (y1.2 + (1 : Int))
if 0 ≤ v16 ∧ v16 ≤ v9 ∧ v9 ≤ (a1.length : Int) then
let v17 : LI_ := cut a1 v16 v9
let v18 : Int := IntKind.wrap .i64 (v9 + (1 : Int))
some (v17, v18)
else none
else none
else
some (([] : List Int), (-1 : Int))
else
some (([] : List Int), (-1 : Int))
def F25_0 (f28 : ByteArray → (LI_ × (Int × Int)) → Option (Bool × (LI_ × (Int × Int)))) (f62 : Int → Option (ByteArray)) (self : (LI_ × Int × Int × (LI_ × (Int × Int))) → Option ((LI_ × Int × Int × (LI_ × (Int × Int))) ⊕ (Bool × (LI_ × (Int × Int))))) (z5 : LI_ × Int × Int × (LI_ × (Int × Int))) : Option ((LI_ × Int × Int × (LI_ × (Int × Int))) ⊕ (Bool × (LI_ × (Int × Int)))) :=
let v6 : Bool := decide (z5.2.2.1 < z5.2.1)
bif v6 then
if 0 ≤ z5.2.2.1 ∧ z5.2.2.1 < (z5.1.length : Int) then
let v7 : Int := z5.1.getD z5.2.2.1.toNat (0 : Int)
Option.bind (f62 v7) fun y8 =>
if (⟨#[116, 97, 116, 116, 105, 110, 103, 32, 49, 32]⟩ : ByteArray).size + y8.size ≤ 140737488355328 then
let v9 : ByteArray := (⟨#[116, 97, 116, 116, 105, 110, 103, 32, 49, 32]⟩ : ByteArray) ++ y8
if v9.size + (⟨#[10]⟩ : ByteArray).size ≤ 140737488355328 then
let v10 : ByteArray := v9 ++ (⟨#[10]⟩ : ByteArray)
Option.bind (f28 v10 z5.2.2.2) fun y11 =>
bif y11.1 then
let v12 : (LI_ × (Int × Int)) := (y11.2.1, (y11.2.2.1, v7))
some (.inr (true, v12))
else
let v13 : Int := IntKind.wrap .i64 (z5.2.2.1 + (1 : Int))
self (z5.1, z5.2.1, v13, y11.2)
else none
else none
else none
else
some (.inl (z5.1, z5.2.1, z5.2.2.1, z5.2.2.2))
def r25 (f28 : ByteArray → (LI_ × (Int × Int)) → Option (Bool × (LI_ × (Int × Int)))) (f62 : Int → Option (ByteArray)) (lp0 : (LI_ × Int × Int × (LI_ × (Int × Int))) → Option ((LI_ × Int × Int × (LI_ × (Int × Int))) ⊕ (Bool × (LI_ × (Int × Int))))) (a0 : (LI_ × (Int × Int))) : Option (Bool × (LI_ × (Int × Int))) :=
let v1 : LI_ := ([(0 : Int), (1 : Int)] : List Int)
let v2 : Int := (v1.length : Int)
Option.bind (lp0 (v1, v2, (0 : Int), a0)) fun s3 => onSum s3 (fun y4 =>
some (false, y4.2.2.2)) (fun o14 => some o14)
def r26 (f28 : ByteArray → (LI_ × (Int × Int)) → Option (Bool × (LI_ × (Int × Int)))) (f63 : (LI_ × (Int × Int)) → Option (Int × Bool × (LI_ × (Int × Int)))) (a0 : (LI_ × (Int × Int))) : Option (Int × Int × Int × Bool × (LI_ × (Int × Int))) :=
Option.bind (f28 (⟨#[64]⟩ : ByteArray) a0) fun y1 =>
let v2 : Bool := !y1.1
bif v2 then
some ((0 : Int), (0 : Int), (0 : Int), false, y1.2)
else
Option.bind (f63 y1.2) fun y3 =>
bif y3.2.1 == true then
Option.bind (f28 (⟨#[32]⟩ : ByteArray) y3.2.2) fun y4 =>
Option.bind (f63 y4.2) fun y5 =>
bif y4.1 == true then
bif y5.2.1 == true then
Option.bind (f28 (⟨#[32]⟩ : ByteArray) y5.2.2) fun y6 =>
Option.bind (f63 y6.2) fun y7 =>
bif y6.1 == true then
bif y7.2.1 == true then
Option.bind (f28 (⟨#[10]⟩ : ByteArray) y7.2.2) fun y8 =>
some (y3.1, y5.1, y7.1, y8.1, y8.2)
else
some (y3.1, y5.1, y7.1, false, y7.2.2)
else
some (y3.1, y5.1, y7.1, false, y7.2.2)
else
Option.bind (f63 y5.2.2) fun y9 =>
some (y3.1, y5.1, y9.1, false, y9.2.2)
else
Option.bind (f63 y5.2.2) fun y10 =>
some (y3.1, y5.1, y10.1, false, y10.2.2)
else
Option.bind (f63 y3.2.2) fun y11 =>
Option.bind (f63 y11.2.2) fun y12 =>
some (y3.1, y11.1, y12.1, false, y12.2.2)
def F27_0 (f64 : (LI_ × (Int × Int)) → Option (LI_ × Bool × (LI_ × (Int × Int)))) (self : (Int × Int × (LI_ × (Int × Int)) × LL_) → Option ((Int × Int × (LI_ × (Int × Int)) × LL_) ⊕ (LL_ × Int × Bool × (LI_ × (Int × Int))))) (z3 : Int × Int × (LI_ × (Int × Int)) × LL_) : Option ((Int × Int × (LI_ × (Int × Int)) × LL_) ⊕ (LL_ × Int × Bool × (LI_ × (Int × Int)))) :=
let v4 : Bool := decide (z3.2.1 < z3.1)
bif v4 then
Option.bind (f64 z3.2.2.1) fun y5 =>
let v6 : Bool := !y5.2.1
bif v6 then
some (.inr (([] : List LI_), z3.2.2.1.2.1, false, y5.2.2))
else
let v7 : LL_ := ([y5.1] : List LI_)
if (z3.2.2.2.length + v7.length) * 24 ≤ 140737488355328 ∧ z3.2.2.2.length + v7.length ≤ 140737488355328 then
let v8 : LL_ := z3.2.2.2 ++ v7
let v9 : Int := IntKind.wrap .i64 (z3.2.1 + (1 : Int))
self (z3.1, v9, y5.2.2, v8)
else none
else
some (.inl (z3.1, z3.2.1, z3.2.2.1, z3.2.2.2))
def r27 (f64 : (LI_ × (Int × Int)) → Option (LI_ × Bool × (LI_ × (Int × Int)))) (lp0 : (Int × Int × (LI_ × (Int × Int)) × LL_) → Option ((Int × Int × (LI_ × (Int × Int)) × LL_) ⊕ (LL_ × Int × Bool × (LI_ × (Int × Int))))) (a0 : Int) (a1 : (LI_ × (Int × Int))) : Option (LL_ × Int × Bool × (LI_ × (Int × Int))) :=
Option.bind (lp0 (a0, (0 : Int), a1, ([] : List LI_))) fun s1 => onSum s1 (fun y2 =>
some (y2.2.2.2, (0 : Int), true, y2.2.2.1)) (fun o10 => some o10)
def r28 (f65 : LI_ → LI_ → Option (Bool)) (a0 : ByteArray) (a1 : (LI_ × (Int × Int))) : Option (Bool × (LI_ × (Int × Int))) :=
if 0 ≤ a1.2.1 ∧ a1.2.1 ≤ (a1.1.length : Int) ∧ (a1.1.length : Int) ≤ (a1.1.length : Int) then
let v1 : LI_ := cut a1.1 a1.2.1 (a1.1.length : Int)
if a0.size ≤ 140737488355328 then
let v2 : LI_ := strBytes a0
Option.bind (f65 v1 v2) fun y3 =>
let v4 : Bool := !y3
bif v4 then
some (false, a1)
else
let v5 : Int := (a0.size : Int)
let v6 : Int := IntKind.wrap .i64 (a1.2.1 + v5)
let v7 : (LI_ × (Int × Int)) := (a1.1, (v6, a1.2.2))
some (true, v7)
else none
else none
def F29_0 (f66 : Int → Option (Bool)) (f67 : LI_ → Int → Option (Int)) (f68 : LI_ → Option (LI_)) (self : (Int × LI_ × LL_) → Option ((Int × LI_ × LL_) ⊕ (LL_ × Int))) (z5 : Int × LI_ × LL_) : Option ((Int × LI_ × LL_) ⊕ (LL_ × Int)) :=
let v6 : Int := (z5.2.1.length : Int)
let v7 : Bool := decide (v6 > (0 : Int))
bif v7 then
let v8 : Bool := decide (z5.1 = (1 : Int))
bif v8 then
Option.bind (f67 z5.2.1 (10 : Int)) fun y9 =>
let v10 : Int := IntKind.wrap .i64 (y9 + (1 : Int))
let v11 : Bool := decide (v10 = (0 : Int))
bif v11 then
let v12 : Int := (z5.2.1.length : Int)
if 0 ≤ (0 : Int) ∧ (0 : Int) ≤ v12 ∧ v12 ≤ (z5.2.1.length : Int) then
let v13 : LI_ := cut z5.2.1 (0 : Int) v12
Option.bind (f68 v13) fun y14 =>
let v15 : LL_ := ([y14] : List LI_)
if (z5.2.2.length + v15.length) * 24 ≤ 140737488355328 ∧ z5.2.2.length + v15.length ≤ 140737488355328 then
let v16 : LL_ := z5.2.2 ++ v15
if 0 ≤ v12 ∧ v12 ≤ (z5.2.1.length : Int) ∧ (z5.2.1.length : Int) ≤ (z5.2.1.length : Int) then
let v17 : LI_ := cut z5.2.1 v12 (z5.2.1.length : Int)
self (z5.1, v17, v16)
else none
else none
else none
else
if 0 ≤ (0 : Int) ∧ (0 : Int) ≤ v10 ∧ v10 ≤ (z5.2.1.length : Int) then
let v18 : LI_ := cut z5.2.1 (0 : Int) v10
Option.bind (f68 v18) fun y19 =>
let v20 : LL_ := ([y19] : List LI_)
if (z5.2.2.length + v20.length) * 24 ≤ 140737488355328 ∧ z5.2.2.length + v20.length ≤ 140737488355328 then
let v21 : LL_ := z5.2.2 ++ v20
if 0 ≤ v10 ∧ v10 ≤ (z5.2.1.length : Int) ∧ (z5.2.1.length : Int) ≤ (z5.2.1.length : Int) then
let v22 : LI_ := cut z5.2.1 v10 (z5.2.1.length : Int)
self (z5.1, v22, v21)
else none
else none
else none
else
if 0 ≤ (0 : Int) ∧ (0 : Int) ≤ (1 : Int) ∧ (1 : Int) ≤ (z5.2.1.length : Int) then
let v23 : LI_ := cut z5.2.1 (0 : Int) (1 : Int)
Option.bind (f68 v23) fun y24 =>
let v25 : LL_ := ([y24] : List LI_)
if (z5.2.2.length + v25.length) * 24 ≤ 140737488355328 ∧ z5.2.2.length + v25.length ≤ 140737488355328 then
let v26 : LL_ := z5.2.2 ++ v25
if 0 ≤ (1 : Int) ∧ (1 : Int) ≤ (z5.2.1.length : Int) ∧ (z5.2.1.length : Int) ≤ (z5.2.1.length : Int) then
let v27 : LI_ := cut z5.2.1 (1 : Int) (z5.2.1.length : Int)
self (z5.1, v27, v26)
else none
else none
else none
else
some (.inl (z5.1, z5.2.1, z5.2.2))
def r29 (f66 : Int → Option (Bool)) (f67 : LI_ → Int → Option (Int)) (f68 : LI_ → Option (LI_)) (lp0 : (Int × LI_ × LL_) → Option ((Int × LI_ × LL_) ⊕ (LL_ × Int))) (a0 : Int) (a1 : LI_) : Option (LL_ × Int) :=
Option.bind (f66 a0) fun y1 =>
let v2 : Bool := !y1
bif v2 then
some (([] : List LI_), (1 : Int))
else
Option.bind (lp0 (a0, a1, ([] : List LI_))) fun s3 => onSum s3 (fun y4 =>
some (y4.2.2, (0 : Int))) (fun o28 => some o28)
def F30_0 (f32 : HK_ → Option (Bool)) (f33 : LL_ → LL_ → Option (LL_)) (f69 : LL_ → LL_ → Int → Option (Bool)) (self : (LL_ × Int × HK_ × Int × Int × LL_) → Option ((LL_ × Int × HK_ × Int × Int × LL_) ⊕ (LL_ × Int))) (z6 : LL_ × Int × HK_ × Int × Int × LL_) : Option ((LL_ × Int × HK_ × Int × Int × LL_) ⊕ (LL_ × Int)) :=
let v7 : Bool := decide (z6.2.2.2.2.1 < z6.2.2.2.1)
bif v7 then
if 0 ≤ z6.2.2.2.2.1 ∧ z6.2.2.2.2.1 < (z6.2.2.1.length : Int) then
let v8 : (Int × (LL_ × LL_)) := z6.2.2.1.getD z6.2.2.2.2.1.toNat ((0 : Int), (([] : List LI_), ([] : List LI_)))
Option.bind (f69 z6.1 v8.2.1 v8.1) fun y9 =>
let v10 : Bool := !y9
bif v10 then
some (.inr (([] : List LI_), (5 : Int)))
else
if 0 ≤ z6.2.1 ∧ z6.2.1 ≤ v8.1 ∧ v8.1 ≤ (z6.1.length : Int) then
let v11 : LL_ := cut z6.1 z6.2.1 v8.1
Option.bind (f33 v11 z6.2.2.2.2.2) fun y12 =>
Option.bind (f33 v8.2.2 y12) fun y13 =>
let v14 : Int := (v8.2.1.length : Int)
let v15 : Int := IntKind.wrap .i64 (v8.1 + v14)
let v16 : Int := IntKind.wrap .i64 (z6.2.2.2.2.1 + (1 : Int))
self (z6.1, v15, z6.2.2.1, z6.2.2.2.1, v16, y13)
else none
else none
else
some (.inl (z6.1, z6.2.1, z6.2.2.1, z6.2.2.2.1, z6.2.2.2.2.1, z6.2.2.2.2.2))
def r30 (f32 : HK_ → Option (Bool)) (f33 : LL_ → LL_ → Option (LL_)) (f69 : LL_ → LL_ → Int → Option (Bool)) (lp0 : (LL_ × Int × HK_ × Int × Int × LL_) → Option ((LL_ × Int × HK_ × Int × Int × LL_) ⊕ (LL_ × Int))) (a0 : HK_) (a1 : LL_) : Option (LL_ × Int) :=
Option.bind (f32 a0) fun y1 =>
let v2 : Bool := !y1
bif v2 then
some (([] : List LI_), (1 : Int))
else
let v3 : Int := (a0.length : Int)
Option.bind (lp0 (a1, (0 : Int), a0, v3, (0 : Int), ([] : List LI_))) fun s4 => onSum s4 (fun y5 =>
if 0 ≤ y5.2.1 ∧ y5.2.1 ≤ (y5.1.length : Int) ∧ (y5.1.length : Int) ≤ (y5.1.length : Int) then
let v18 : LL_ := cut y5.1 y5.2.1 (y5.1.length : Int)
Option.bind (f33 v18 y5.2.2.2.2.2) fun y19 =>
some (y19, (0 : Int))
else none) (fun o17 => some o17)
def F31_0 (self : (LL_ × Int × Int × LI_) → Option ((LL_ × Int × Int × LI_) ⊕ (LI_))) (z4 : LL_ × Int × Int × LI_) : Option ((LL_ × Int × Int × LI_) ⊕ (LI_)) :=
let v5 : Bool := decide (z4.2.2.1 < z4.2.1)
bif v5 then
if 0 ≤ z4.2.2.1 ∧ z4.2.2.1 < (z4.1.length : Int) then
let v6 : LI_ := z4.1.getD z4.2.2.1.toNat ([] : List Int)
if (z4.2.2.2.length + v6.length) * 1 ≤ 140737488355328 ∧ z4.2.2.2.length + v6.length ≤ 140737488355328 then
let v7 : LI_ := z4.2.2.2 ++ v6
let v8 : Int := IntKind.wrap .i64 (z4.2.2.1 + (1 : Int))
self (z4.1, z4.2.1, v8, v7)
else none
else none
else
some (.inl (z4.1, z4.2.1, z4.2.2.1, z4.2.2.2))
def r31 (lp0 : (LL_ × Int × Int × LI_) → Option ((LL_ × Int × Int × LI_) ⊕ (LI_))) (a0 : LL_) : Option (LI_) :=
let v1 : Int := (a0.length : Int)
Option.bind (lp0 (a0, v1, (0 : Int), ([] : List Int))) fun s2 => onSum s2 (fun y3 =>
some y3.2.2.2) (fun o9 => some o9)
def F32_0 (f70 : LL_ → Option (Bool)) (self : (Int × HK_ × Int × Int) → Option ((Int × HK_ × Int × Int) ⊕ (Bool))) (z4 : Int × HK_ × Int × Int) : Option ((Int × HK_ × Int × Int) ⊕ (Bool)) :=
let v5 : Bool := decide (z4.2.2.2 < z4.2.2.1)
bif v5 then
if 0 ≤ z4.2.2.2 ∧ z4.2.2.2 < (z4.2.1.length : Int) then
let v6 : (Int × (LL_ × LL_)) := z4.2.1.getD z4.2.2.2.toNat ((0 : Int), (([] : List LI_), ([] : List LI_)))
let v7 : Bool := decide (v6.1 ≤ z4.1)
bif v7 == false then
let v8 : Bool := decide (v6.1 > (1048576 : Int))
bif v8 == false then
let v9 : Int := (v6.2.1.length : Int)
let v10 : Int := (v6.2.2.length : Int)
let v11 : Int := IntKind.wrap .i64 (v9 + v10)
let v12 : Bool := decide (v11 = (0 : Int))
bif v12 == false then
Option.bind (f70 v6.2.1) fun y13 =>
let v14 : Bool := !y13
bif v14 == false then
Option.bind (f70 v6.2.2) fun y15 =>
let v16 : Bool := !y15
bif v16 then
some (.inr false)
else
let v17 : Int := (v6.2.1.length : Int)
let v18 : Int := IntKind.wrap .i64 (v6.1 + v17)
let v19 : Int := IntKind.wrap .i64 (z4.2.2.2 + (1 : Int))
self (v18, z4.2.1, z4.2.2.1, v19)
else
some (.inr false)
else
some (.inr false)
else
some (.inr false)
else
some (.inr false)
else none
else
some (.inl (z4.1, z4.2.1, z4.2.2.1, z4.2.2.2))
def r32 (f70 : LL_ → Option (Bool)) (lp0 : (Int × HK_ × Int × Int) → Option ((Int × HK_ × Int × Int) ⊕ (Bool))) (a0 : HK_) : Option (Bool) :=
let v1 : Int := (a0.length : Int)
Option.bind (lp0 ((-1 : Int), a0, v1, (0 : Int))) fun s2 => onSum s2 (fun y3 =>
some true) (fun o20 => some o20)
def F33_0 (f68 : LI_ → Option (LI_)) (self : (LL_ × Int × Int × LL_) → Option ((LL_ × Int × Int × LL_) ⊕ (LL_))) (z4 : LL_ × Int × Int × LL_) : Option ((LL_ × Int × Int × LL_) ⊕ (LL_)) :=
let v5 : Bool := decide (z4.2.2.1 < z4.2.1)
bif v5 then
if 0 ≤ z4.2.2.1 ∧ z4.2.2.1 < (z4.1.length : Int) then
let v6 : LI_ := z4.1.getD z4.2.2.1.toNat ([] : List Int)
Option.bind (f68 v6) fun y7 =>
let v8 : LL_ := ([y7] : List LI_)
if (z4.2.2.2.length + v8.length) * 24 ≤ 140737488355328 ∧ z4.2.2.2.length + v8.length ≤ 140737488355328 then
let v9 : LL_ := z4.2.2.2 ++ v8
let v10 : Int := IntKind.wrap .i64 (z4.2.2.1 + (1 : Int))
self (z4.1, z4.2.1, v10, v9)
else none
else none
else
some (.inl (z4.1, z4.2.1, z4.2.2.1, z4.2.2.2))
def r33 (f68 : LI_ → Option (LI_)) (lp0 : (LL_ × Int × Int × LL_) → Option ((LL_ × Int × Int × LL_) ⊕ (LL_))) (a0 : LL_) (a1 : LL_) : Option (LL_) :=
let v1 : Int := (a0.length : Int)
Option.bind (lp0 (a0, v1, (0 : Int), a1)) fun s2 => onSum s2 (fun y3 =>
some y3.2.2.2) (fun o11 => some o11)
def F34_0 (self : (LI_ × Int × Int × Int × Int) → Option ((LI_ × Int × Int × Int × Int) ⊕ (Int × Int))) (z3 : LI_ × Int × Int × Int × Int) : Option ((LI_ × Int × Int × Int × Int) ⊕ (Int × Int)) :=
let v4 : Int := (z3.1.length : Int)
let v5 : Bool := decide (z3.2.2.2.2 < v4)
bif v5 == true then
if 0 ≤ z3.2.2.2.2 ∧ z3.2.2.2.2 < (z3.1.length : Int) then
let v6 : Int := z3.1.getD z3.2.2.2.2.toNat (0 : Int)
let v7 : Bool := decide (v6 ≥ (48 : Int))
bif v7 == true then
if 0 ≤ z3.2.2.2.2 ∧ z3.2.2.2.2 < (z3.1.length : Int) then
let v8 : Int := z3.1.getD z3.2.2.2.2.toNat (0 : Int)
let v9 : Bool := decide (v8 ≤ (57 : Int))
bif v9 then
let v10 : Bool := decide (z3.2.2.2.2 > z3.2.1)
bif v10 == true then
let v11 : Bool := decide (z3.2.2.2.1 = (0 : Int))
bif v11 == false then
let v12 : Bool := decide (z3.2.2.2.1 > z3.2.2.1)
bif v12 then
some (.inr ((0 : Int), (-1 : Int)))
else
let v13 : Int := IntKind.wrap .i64 (z3.2.2.2.1 * (10 : Int))
if 0 ≤ z3.2.2.2.2 ∧ z3.2.2.2.2 < (z3.1.length : Int) then
let v14 : Int := z3.1.getD z3.2.2.2.2.toNat (0 : Int)
let v15 : Int := IntKind.wrap .u8 (v14 - (48 : Int))
let v16 : Int := IntKind.wrap .i64 v15
let v17 : Int := IntKind.wrap .i64 (v13 + v16)
let v18 : Int := IntKind.wrap .i64 (z3.2.2.2.2 + (1 : Int))
self (z3.1, z3.2.1, z3.2.2.1, v17, v18)
else none
else
some (.inr ((0 : Int), (-1 : Int)))
else
let v19 : Bool := decide (z3.2.2.2.1 > z3.2.2.1)
bif v19 then
some (.inr ((0 : Int), (-1 : Int)))
else
let v20 : Int := IntKind.wrap .i64 (z3.2.2.2.1 * (10 : Int))
if 0 ≤ z3.2.2.2.2 ∧ z3.2.2.2.2 < (z3.1.length : Int) then
let v21 : Int := z3.1.getD z3.2.2.2.2.toNat (0 : Int)
let v22 : Int := IntKind.wrap .u8 (v21 - (48 : Int))
let v23 : Int := IntKind.wrap .i64 v22
let v24 : Int := IntKind.wrap .i64 (v20 + v23)
let v25 : Int := IntKind.wrap .i64 (z3.2.2.2.2 + (1 : Int))
self (z3.1, z3.2.1, z3.2.2.1, v24, v25)
else none
else
some (.inl (z3.1, z3.2.1, z3.2.2.1, z3.2.2.2.1, z3.2.2.2.2))
else none
else
some (.inl (z3.1, z3.2.1, z3.2.2.1, z3.2.2.2.1, z3.2.2.2.2))
else none
else
some (.inl (z3.1, z3.2.1, z3.2.2.1, z3.2.2.2.1, z3.2.2.2.2))
def r34 (lp0 : (LI_ × Int × Int × Int × Int) → Option ((LI_ × Int × Int × Int × Int) ⊕ (Int × Int))) (a0 : LI_) (a1 : Int) (a2 : Int) : Option (Int × Int) :=
Option.bind (lp0 (a0, a1, a2, (0 : Int), a1)) fun s1 => onSum s1 (fun y2 =>
let v27 : Bool := decide (y2.2.2.2.2 = y2.2.1)
bif v27 == false then
let v28 : Bool := decide (y2.2.2.2.1 > y2.2.2.1)
bif v28 then
some ((0 : Int), (-1 : Int))
else
some (y2.2.2.2.1, y2.2.2.2.2)
else
some ((0 : Int), (-1 : Int))) (fun o26 => some o26)
def F35_0 (self : (LI_ × Int) → Option ((LI_ × Int) ⊕ (Bool))) (z9 : LI_ × Int) : Option ((LI_ × Int) ⊕ (Bool)) :=
let v10 : Int := IntKind.wrap .i64 (z9.2 + (1 : Int))
let v11 : Int := (z9.1.length : Int)
let v12 : Bool := decide (v10 < v11)
bif v12 then
if 0 ≤ z9.2 ∧ z9.2 < (z9.1.length : Int) then
let v13 : Int := z9.1.getD z9.2.toNat (0 : Int)
let v14 : Bool := decide (v13 = (10 : Int))
bif v14 then
some (.inr false)
else
let v15 : Int := IntKind.wrap .i64 (z9.2 + (1 : Int))
self (z9.1, v15)
else none
else
some (.inl (z9.1, z9.2))
def r35 (lp0 : (LI_ × Int) → Option ((LI_ × Int) ⊕ (Bool))) (a0 : Int) (a1 : LI_) : Option (Bool) :=
let v1 : Bool := decide (a0 = (0 : Int))
bif v1 then
let v2 : Int := (a1.length : Int)
let v3 : Bool := decide (v2 = (1 : Int))
some v3
else
let v4 : Bool := !decide (a0 = (1 : Int))
bif v4 == false then
let v5 : Int := (a1.length : Int)
let v6 : Bool := decide (v5 = (0 : Int))
bif v6 then
some false
else
Option.bind (lp0 (a1, (0 : Int))) fun s7 => onSum s7 (fun y8 =>
some true) (fun o16 => some o16)
else
some false
def r62 (a0 : Int) : Option (ByteArray) :=
let v1 : Bool := decide (a0 = (0 : Int))
bif v1 then
some (⟨#[98, 121, 116, 101, 115]⟩ : ByteArray)
else
let v2 : Bool := decide (a0 = (1 : Int))
bif v2 then
some (⟨#[108, 105, 110, 101, 115]⟩ : ByteArray)
else
some (⟨#[]⟩ : ByteArray)
def F63_0 (self : (Int × Int × (LI_ × (Int × Int))) → Option ((Int × Int × (LI_ × (Int × Int))) ⊕ (Int × Bool × (LI_ × (Int × Int))))) (z3 : Int × Int × (LI_ × (Int × Int))) : Option ((Int × Int × (LI_ × (Int × Int))) ⊕ (Int × Bool × (LI_ × (Int × Int)))) :=
let v4 : Int := (z3.2.2.1.length : Int)
let v5 : Bool := decide (z3.2.2.2.1 < v4)
bif v5 == true then
if 0 ≤ z3.2.2.2.1 ∧ z3.2.2.2.1 < (z3.2.2.1.length : Int) then
let v6 : Int := z3.2.2.1.getD z3.2.2.2.1.toNat (0 : Int)
let v7 : Bool := decide (v6 ≥ (48 : Int))
bif v7 == true then
if 0 ≤ z3.2.2.2.1 ∧ z3.2.2.2.1 < (z3.2.2.1.length : Int) then
let v8 : Int := z3.2.2.1.getD z3.2.2.2.1.toNat (0 : Int)
let v9 : Bool := decide (v8 ≤ (57 : Int))
bif v9 then
let v10 : Int := IntKind.wrap .i64 ((10 : Int) * z3.1)
if 0 ≤ z3.2.2.2.1 ∧ z3.2.2.2.1 < (z3.2.2.1.length : Int) then
let v11 : Int := z3.2.2.1.getD z3.2.2.2.1.toNat (0 : Int)
let v12 : Int := IntKind.wrap .u8 (v11 - (48 : Int))
let v13 : Int := IntKind.wrap .i64 v12
let v14 : Int := IntKind.wrap .i64 (v10 + v13)
let v15 : Int := IntKind.wrap .i64 (z3.2.2.2.1 + (1 : Int))
let v16 : (LI_ × (Int × Int)) := (z3.2.2.1, (v15, z3.2.2.2.2))
let v17 : Bool := decide (v14 > (1048576 : Int))
bif v17 == false then
let v18 : Int := IntKind.wrap .i64 (v16.2.1 - z3.2.1)
let v19 : Bool := decide (v18 > (1 : Int))
bif v19 == true then
if 0 ≤ z3.2.1 ∧ z3.2.1 < (v16.1.length : Int) then
let v20 : Int := v16.1.getD z3.2.1.toNat (0 : Int)
let v21 : Bool := decide (v20 = (48 : Int))
bif v21 then
some (.inr ((0 : Int), false, v16))
else
self (v14, z3.2.1, v16)
else none
else
self (v14, z3.2.1, v16)
else
some (.inr ((0 : Int), false, v16))
else none
else
some (.inl (z3.1, z3.2.1, z3.2.2))
else none
else
some (.inl (z3.1, z3.2.1, z3.2.2))
else none
else
some (.inl (z3.1, z3.2.1, z3.2.2))
def r63 (lp0 : (Int × Int × (LI_ × (Int × Int))) → Option ((Int × Int × (LI_ × (Int × Int))) ⊕ (Int × Bool × (LI_ × (Int × Int))))) (a0 : (LI_ × (Int × Int))) : Option (Int × Bool × (LI_ × (Int × Int))) :=
Option.bind (lp0 ((0 : Int), a0.2.1, a0)) fun s1 => onSum s1 (fun y2 =>
let v23 : Bool := decide (y2.2.2.2.1 > y2.2.1)
some (y2.1, v23, y2.2.2)) (fun o22 => some o22)
def r64 (f28 : ByteArray → (LI_ × (Int × Int)) → Option (Bool × (LI_ × (Int × Int)))) (f63 : (LI_ × (Int × Int)) → Option (Int × Bool × (LI_ × (Int × Int)))) (f68 : LI_ → Option (LI_)) (f105 : Int → LI_ → Option (Bool)) (a0 : (LI_ × (Int × Int))) : Option (LI_ × Bool × (LI_ × (Int × Int))) :=
Option.bind (f63 a0) fun y1 =>
let v2 : Bool := !y1.2.1
bif v2 == false then
Option.bind (f28 (⟨#[58]⟩ : ByteArray) y1.2.2) fun y3 =>
let v4 : Bool := !y3.1
bif v4 == false then
let v5 : Int := (y3.2.1.length : Int)
let v6 : Int := IntKind.wrap .i64 (v5 - y3.2.2.1)
let v7 : Bool := decide (y1.1 > v6)
bif v7 then
some (([] : List Int), false, y3.2)
else
let v8 : Int := IntKind.wrap .i64 (y3.2.2.1 + y1.1)
if 0 ≤ y3.2.2.1 ∧ y3.2.2.1 ≤ v8 ∧ v8 ≤ (y3.2.1.length : Int) then
let v9 : LI_ := cut y3.2.1 y3.2.2.1 v8
Option.bind (f68 v9) fun y10 =>
let v11 : Int := IntKind.wrap .i64 (y3.2.2.1 + y1.1)
let v12 : (LI_ × (Int × Int)) := (y3.2.1, (v11, y3.2.2.2))
Option.bind (f28 (⟨#[10]⟩ : ByteArray) v12) fun y13 =>
bif y13.1 == true then
Option.bind (f105 y13.2.2.2 y10) fun y14 =>
some (y10, y14, y13.2)
else
some (y10, false, y13.2)
else none
else
some (([] : List Int), false, y3.2)
else
some (([] : List Int), false, y1.2.2)
def r65 (f106 : LI_ → LI_ → Option (Bool)) (a0 : LI_) (a1 : LI_) : Option (Bool) :=
let v1 : Int := (a0.length : Int)
let v2 : Int := (a1.length : Int)
let v3 : Bool := decide (v1 ≥ v2)
bif v3 == true then
let v4 : Int := (a1.length : Int)
if 0 ≤ (0 : Int) ∧ (0 : Int) ≤ v4 ∧ v4 ≤ (a0.length : Int) then
let v5 : LI_ := cut a0 (0 : Int) v4
Option.bind (f106 v5 a1) fun y6 =>
some y6
else none
else
some false
def r66 (a0 : Int) : Option (Bool) :=
let v1 : Bool := decide (a0 = (0 : Int))
bif v1 == false then
let v2 : Bool := decide (a0 = (1 : Int))
some v2
else
some true
def r67 (f107 : LI_ → Int → Option (Int)) (a0 : LI_) (a1 : Int) : Option (Int) :=
Option.bind (f107 a0 a1) fun y1 =>
some y1
def r69 (f108 : LL_ → LL_ → Option (Bool)) (a0 : LL_) (a1 : LL_) (a2 : Int) : Option (Bool) :=
let v1 : Int := (a0.length : Int)
let v2 : Bool := decide (a2 ≤ v1)
bif v2 == true then
let v3 : Int := (a1.length : Int)
let v4 : Int := (a0.length : Int)
let v5 : Int := IntKind.wrap .i64 (v4 - a2)
let v6 : Bool := decide (v3 ≤ v5)
bif v6 == true then
let v7 : Int := (a1.length : Int)
let v8 : Int := IntKind.wrap .i64 (a2 + v7)
if 0 ≤ a2 ∧ a2 ≤ v8 ∧ v8 ≤ (a0.length : Int) then
let v9 : LL_ := cut a0 a2 v8
Option.bind (f108 v9 a1) fun y10 =>
some y10
else none
else
some false
else
some false
def F70_0 (self : (LL_ × Int × Int) → Option ((LL_ × Int × Int) ⊕ (Bool))) (z4 : LL_ × Int × Int) : Option ((LL_ × Int × Int) ⊕ (Bool)) :=
let v5 : Bool := decide (z4.2.2 < z4.2.1)
bif v5 then
if 0 ≤ z4.2.2 ∧ z4.2.2 < (z4.1.length : Int) then
let v6 : LI_ := z4.1.getD z4.2.2.toNat ([] : List Int)
let v7 : Int := (v6.length : Int)
let v8 : Bool := decide (v7 = (0 : Int))
bif v8 then
some (.inr false)
else
let v9 : Int := IntKind.wrap .i64 (z4.2.2 + (1 : Int))
self (z4.1, z4.2.1, v9)
else none
else
some (.inl (z4.1, z4.2.1, z4.2.2))
def r70 (lp0 : (LL_ × Int × Int) → Option ((LL_ × Int × Int) ⊕ (Bool))) (a0 : LL_) : Option (Bool) :=
let v1 : Int := (a0.length : Int)
Option.bind (lp0 (a0, v1, (0 : Int))) fun s2 => onSum s2 (fun y3 =>
some true) (fun o10 => some o10)
def r105 (f67 : LI_ → Int → Option (Int)) (a0 : Int) (a1 : LI_) : Option (Bool) :=
let v1 : Bool := decide (a0 = (0 : Int))
bif v1 then
let v2 : Int := (a1.length : Int)
let v3 : Bool := decide (v2 = (1 : Int))
some v3
else
let v4 : Bool := decide (a0 = (1 : Int))
bif v4 then
let v5 : Int := (a1.length : Int)
let v6 : Bool := decide (v5 > (0 : Int))
bif v6 == true then
let v7 : Int := (a1.length : Int)
let v8 : Int := IntKind.wrap .i64 (v7 - (1 : Int))
if 0 ≤ (0 : Int) ∧ (0 : Int) ≤ v8 ∧ v8 ≤ (a1.length : Int) then
let v9 : LI_ := cut a1 (0 : Int) v8
Option.bind (f67 v9 (10 : Int)) fun y10 =>
let v11 : Bool := decide (y10 < (0 : Int))
some v11
else none
else
some false
else
some false
def r106 (a0 : LI_) (a1 : LI_) : Option (Bool) :=
let v1 : ByteArray := bytesStr a0
let v2 : ByteArray := bytesStr a1
let v3 : Bool := strEq v1 v2
some v3
def F108_0 (f106 : LI_ → LI_ → Option (Bool)) (self : (LL_ × LL_ × Int × Int) → Option ((LL_ × LL_ × Int × Int) ⊕ (Bool))) (z7 : LL_ × LL_ × Int × Int) : Option ((LL_ × LL_ × Int × Int) ⊕ (Bool)) :=
let v8 : Bool := decide (z7.2.2.2 < z7.2.2.1)
bif v8 then
if 0 ≤ z7.2.2.2 ∧ z7.2.2.2 < (z7.2.1.length : Int) then
let v9 : LI_ := z7.2.1.getD z7.2.2.2.toNat ([] : List Int)
if 0 ≤ z7.2.2.2 ∧ z7.2.2.2 < (z7.1.length : Int) then
let v10 : LI_ := z7.1.getD z7.2.2.2.toNat ([] : List Int)
Option.bind (f106 v9 v10) fun y11 =>
let v12 : Bool := !y11
bif v12 then
some (.inr false)
else
let v13 : Int := IntKind.wrap .i64 (z7.2.2.2 + (1 : Int))
self (z7.1, z7.2.1, z7.2.2.1, v13)
else none
else none
else
some (.inl (z7.1, z7.2.1, z7.2.2.1, z7.2.2.2))
def r108 (f106 : LI_ → LI_ → Option (Bool)) (lp0 : (LL_ × LL_ × Int × Int) → Option ((LL_ × LL_ × Int × Int) ⊕ (Bool))) (a0 : LL_) (a1 : LL_) : Option (Bool) :=
let v1 : Int := (a0.length : Int)
let v2 : Int := (a1.length : Int)
let v3 : Bool := !decide (v1 = v2)
bif v3 then
some false
else
let v4 : Int := (a0.length : Int)
Option.bind (lp0 (a1, a0, v4, (0 : Int))) fun s5 => onSum s5 (fun y6 =>
some true) (fun o14 => some o14)
def g3 (call : CallFn E) : LI_ → LI_ → Option (Bool) := fun x0 x1 => call 3 (x0, x1)
def g4 (call : CallFn E) : Unit → Option (Bool) := fun _ => call 4 ()
def g5 (call : CallFn E) : LI_ → LI_ → Option (LI_ × Int × Int) := fun x0 x1 => call 5 (x0, x1)
def g6 (call : CallFn E) : LI_ → LI_ → Option (LI_ × Int × Int) := fun x0 x1 => call 6 (x0, x1)
def g7 (call : CallFn E) : LI_ → Option (Int × HK_ × Int × Int) := fun x0 => call 7 x0
def g11 (call : CallFn E) : LI_ → Option (Int × HK_ × Int × Int) := fun x0 => call 11 x0
def g12 (call : CallFn E) : Int → HK_ → LI_ → Option (LI_ × Int) := fun x0 x1 x2 => call 12 (x0, x1, x2)
def g13 (call : CallFn E) : HK_ → Option (HK_ × Int) := fun x0 => call 13 x0
def g14 (call : CallFn E) : Int → Option (ByteArray) := fun x0 => call 14 x0
def g15 (call : CallFn E) : LI_ → Int → Int → Option (Bool) := fun x0 x1 x2 => call 15 (x0, x1, x2)
def g16 (call : CallFn E) : LI_ → Int → Option (Int × Int × Int × Int) := fun x0 x1 => call 16 (x0, x1)
def g17 (call : CallFn E) : Int → LI_ → Int → Option (LI_ × Int) := fun x0 x1 x2 => call 17 (x0, x1, x2)
def g25 (call : CallFn E) : (LI_ × (Int × Int)) → Option (Bool × (LI_ × (Int × Int))) := fun x0 => call 25 x0
def g26 (call : CallFn E) : (LI_ × (Int × Int)) → Option (Int × Int × Int × Bool × (LI_ × (Int × Int))) := fun x0 => call 26 x0
def g27 (call : CallFn E) : Int → (LI_ × (Int × Int)) → Option (LL_ × Int × Bool × (LI_ × (Int × Int))) := fun x0 x1 => call 27 (x0, x1)
def g28 (call : CallFn E) : ByteArray → (LI_ × (Int × Int)) → Option (Bool × (LI_ × (Int × Int))) := fun x0 x1 => call 28 (x0, x1)
def g29 (call : CallFn E) : Int → LI_ → Option (LL_ × Int) := fun x0 x1 => call 29 (x0, x1)
def g30 (call : CallFn E) : HK_ → LL_ → Option (LL_ × Int) := fun x0 x1 => call 30 (x0, x1)
def g31 (call : CallFn E) : LL_ → Option (LI_) := fun x0 => call 31 x0
def g32 (call : CallFn E) : HK_ → Option (Bool) := fun x0 => call 32 x0
def g33 (call : CallFn E) : LL_ → LL_ → Option (LL_) := fun x0 x1 => call 33 (x0, x1)
def g34 (call : CallFn E) : LI_ → Int → Int → Option (Int × Int) := fun x0 x1 x2 => call 34 (x0, x1, x2)
def g35 (call : CallFn E) : Int → LI_ → Option (Bool) := fun x0 x1 => call 35 (x0, x1)
def g62 (call : CallFn E) : Int → Option (ByteArray) := fun x0 => call 62 x0
def g63 (call : CallFn E) : (LI_ × (Int × Int)) → Option (Int × Bool × (LI_ × (Int × Int))) := fun x0 => call 63 x0
def g64 (call : CallFn E) : (LI_ × (Int × Int)) → Option (LI_ × Bool × (LI_ × (Int × Int))) := fun x0 => call 64 x0
def g65 (call : CallFn E) : LI_ → LI_ → Option (Bool) := fun x0 x1 => call 65 (x0, x1)
def g66 (call : CallFn E) : Int → Option (Bool) := fun x0 => call 66 x0
def g67 (call : CallFn E) : LI_ → Int → Option (Int) := fun x0 x1 => call 67 (x0, x1)
def g68 (call : CallFn E) : LI_ → Option (LI_) := fun x0 => call 68 x0
def g69 (call : CallFn E) : LL_ → LL_ → Int → Option (Bool) := fun x0 x1 x2 => call 69 (x0, x1, x2)
def g70 (call : CallFn E) : LL_ → Option (Bool) := fun x0 => call 70 x0
def g105 (call : CallFn E) : Int → LI_ → Option (Bool) := fun x0 x1 => call 105 (x0, x1)
def g106 (call : CallFn E) : LI_ → LI_ → Option (Bool) := fun x0 x1 => call 106 (x0, x1)
def g107 (call : CallFn E) : LI_ → Int → Option (Int) := fun x0 x1 => call 107 (x0, x1)
def g108 (call : CallFn E) : LL_ → LL_ → Option (Bool) := fun x0 x1 => call 108 (x0, x1)
noncomputable def q3 (call : CallFn E) (n : Nat) (a0 : LI_) (a1 : LI_) : Option (Bool) := runHow E call n s3 (a0, a1) h3
def plugAt : Code → List Nat → Code → Code
  | _, [], X => X
  | .seq a b, 0 :: p, X => .seq (plugAt a p X) b
  | .seq a b, (_ + 1) :: p, X => .seq a (plugAt b p X)
  | .cond c t f, 0 :: p, X => .cond c (plugAt t p X) f
  | .cond c t f, (_ + 1) :: p, X => .cond c t (plugAt f p X)
  | .block i b, _ :: p, X => .block i (plugAt b p X)
  | .loop b, _ :: p, X => .loop (plugAt b p X)
  | c, _ :: _, _ => c
theorem plug_eq : ∀ (p : List Nat) (c : Code), plugAt c p (codeAt c p) = c
  | [], c => by cases c <;> rfl
  | i :: p, c => by
    cases c with
    | seq a b => cases i with
      | zero => show Code.seq (plugAt a p (codeAt a p)) b = _; rw [plug_eq p a]
      | succ i => show Code.seq a (plugAt b p (codeAt b p)) = _; rw [plug_eq p b]
    | cond c t f => cases i with
      | zero => show Code.cond c (plugAt t p (codeAt t p)) f = _; rw [plug_eq p t]
      | succ i => show Code.cond c t (plugAt f p (codeAt f p)) = _; rw [plug_eq p f]
    | block id b => cases i <;> (show Code.block id (plugAt b p (codeAt b p)) = _; rw [plug_eq p b])
    | loop b => cases i <;> (show Code.loop (plugAt b p (codeAt b p)) = _; rw [plug_eq p b])
    | _ => cases i <;> rfl
noncomputable def restX3 (X : Code) (call : CallFn E) (n : Nat) (st : St) : Option (Bool) := ev (ctxOf E call n s3 Tryz.f3 hs3) X s3.outs.den id [1, 1, 1, 1, 1] st fun e st => match e with | .normal => finE E s3 Tryz.f3 s3.ins.objs.length st | .exit _ => none
noncomputable def rest3 (call : CallFn E) (n : Nat) (st : St) : Option (Bool) := restX3 (codeAt c3 [1, 1, 1, 1, 1]) call n st
theorem rrX3 (X : Code) (call : CallFn E) (n : Nat) (a0 : LI_) (a1 : LI_) : runHow E call n s3 (a0, a1) (.code Tryz.f3 (plugAt c3 [1, 1, 1, 1, 1] X) hs3) = r3 (g4 call) (g5 call) (g6 call) (restX3 X call n) a0 a1 := by kernel_rfl
theorem rr3 (call : CallFn E) (n : Nat) (a0 : LI_) (a1 : LI_) : q3 call n a0 a1 = r3 (g4 call) (g5 call) (g6 call) (rest3 call n)  a0 a1 := by have h := rrX3 (codeAt c3 [1, 1, 1, 1, 1]) call n a0 a1; rw [plug_eq] at h; exact h
theorem gq3 (n : Nat) (a0 : LI_) (a1 : LI_) : g3 (evalF E (n + 1)) a0 a1 = q3 (evalF E n) n a0 a1 := by kernel_rfl
noncomputable def q5 (call : CallFn E) (n : Nat) (a0 : LI_) (a1 : LI_) : Option (LI_ × Int × Int) := runHow E call n s5 (a0, a1) h5
theorem rr5 (call : CallFn E) (n : Nat) (a0 : LI_) (a1 : LI_) : q5 call n a0 a1 = r5 (g11 call) (g12 call)  a0 a1 := by kernel_rfl
theorem gq5 (n : Nat) (a0 : LI_) (a1 : LI_) : g5 (evalF E (n + 1)) a0 a1 = q5 (evalF E n) n a0 a1 := by kernel_rfl
noncomputable def q6 (call : CallFn E) (n : Nat) (a0 : LI_) (a1 : LI_) : Option (LI_ × Int × Int) := runHow E call n s6 (a0, a1) h6
theorem rr6 (call : CallFn E) (n : Nat) (a0 : LI_) (a1 : LI_) : q6 call n a0 a1 = r6 (g11 call) (g12 call) (g13 call)  a0 a1 := by kernel_rfl
theorem gq6 (n : Nat) (a0 : LI_) (a1 : LI_) : g6 (evalF E (n + 1)) a0 a1 = q6 (evalF E n) n a0 a1 := by kernel_rfl
def L7_0 : LH := ⟨[0, 6, 7, 10], ⟨[.dat TB_, .dat (.int .i64), .dat (.int .i64), .ref 0], [.row TK_]⟩, 2⟩
noncomputable def b7_0 : Code := codeAt c7 [1, 1, 1, 1, 1, 0, 0, 0]
noncomputable def lq7_0 (call : CallFn E) (n m : Nat) (y : LI_ × Int × Int × HK_) : Option ((LI_ × Int × Int × HK_) ⊕ (Int × HK_ × Int × Int)) := loopAt (ctxOf E call n s7 Tryz.f7 hs7) b7_0 [0, 0, 1, 1, 1, 1, 1] L7_0 m y
def L7_1 : LH := ⟨[0, 6, 7, 8], ⟨[.dat TB_, .dat (.int .i64), .dat (.int .i64), .dat (.int .i64)], []⟩, 0⟩
noncomputable def b7_1 : Code := codeAt c7 [1, 1, 0, 1, 0, 0]
noncomputable def lq7_1 (call : CallFn E) (n m : Nat) (y : LI_ × Int × Int × Int) : Option ((LI_ × Int × Int × Int) ⊕ (Int × HK_ × Int × Int)) := loopAt (ctxOf E call n s7 Tryz.f7 hs7) b7_1 [0, 1, 0, 1, 1] L7_1 m y
def L7_2 : LH := ⟨[0, 6, 7, 10, 12, 13, 15, 16], ⟨[.dat TB_, .dat (.int .i64), .dat (.int .i64), .ref 0, .dat (.int .i64), .dat (.int .i64), .ptr 1 0, .dat (.int .i64)], [.row TK_, .vst TK_]⟩, 4⟩
noncomputable def b7_2 : Code := codeAt c7 [1, 1, 1, 1, 1, 0, 0, 0, 1, 0, 1, 1, 1, 1, 0, 1, 0, 0]
noncomputable def lq7_2 (call : CallFn E) (n m : Nat) (y : LI_ × Int × Int × Int × Int × Int × HK_ × (Int × (LL_ × LL_))) : Option ((LI_ × Int × Int × Int × Int × Int × HK_ × (Int × (LL_ × LL_))) ⊕ (Int × HK_ × Int × Int)) := loopAt (ctxOf E call n s7 Tryz.f7 hs7) b7_2 [0, 1, 0, 1, 1, 1, 1, 0, 1, 0, 0, 0, 1, 1, 1, 1, 1] L7_2 m y
theorem lp7_2 (call : CallFn E) (n m : Nat) (y : LI_ × Int × Int × Int × Int × Int × HK_ × (Int × (LL_ × LL_))) : lq7_2 call n (m + 1) y = F7_2 (g14 call) (g15 call) (g16 call) (g17 call)  (lq7_2 call n m) y := by kernel_rfl
theorem lp7_0 (call : CallFn E) (n m : Nat) (y : LI_ × Int × Int × HK_) : lq7_0 call n (m + 1) y = F7_0 (g14 call) (g15 call) (g16 call) (g17 call) (lq7_2 call n n) (lq7_0 call n m) y := by kernel_rfl
theorem lp7_1 (call : CallFn E) (n m : Nat) (y : LI_ × Int × Int × Int) : lq7_1 call n (m + 1) y = F7_1 (g14 call) (g15 call) (g16 call) (g17 call)  (lq7_1 call n m) y := by kernel_rfl
noncomputable def q7 (call : CallFn E) (n : Nat) (a0 : LI_) : Option (Int × HK_ × Int × Int) := runHow E call n s7 a0 h7
theorem rr7 (call : CallFn E) (n : Nat) (a0 : LI_) : q7 call n a0 = r7 (g14 call) (g15 call) (g16 call) (g17 call) (lq7_0 call n n) (lq7_1 call n n) (lq7_2 call n n) a0 := by kernel_rfl
theorem gq7 (n : Nat) (a0 : LI_) : g7 (evalF E (n + 1)) a0 = q7 (evalF E n) n a0 := by kernel_rfl
def L11_0 : LH := ⟨[0, 3, 6, 7], ⟨[.dat TB_, .ref 0, .ptr 1 0, .dat (.int .i64)], [.row TK_, .var (.pair TB_ (.pair (.int .i64) (.one (.int .i64))))]⟩, 0⟩
noncomputable def b11_0 : Code := codeAt c11 [1, 1, 1, 1, 0, 0, 0]
noncomputable def lq11_0 (call : CallFn E) (n m : Nat) (y : LI_ × Int × HK_ × (LI_ × (Int × Int))) : Option ((LI_ × Int × HK_ × (LI_ × (Int × Int))) ⊕ (Int × HK_ × Int × Int)) := loopAt (ctxOf E call n s11 Tryz.f11 hs11) b11_0 [0, 0, 1, 1, 1, 1] L11_0 m y
theorem lp11_0 (call : CallFn E) (n m : Nat) (y : LI_ × Int × HK_ × (LI_ × (Int × Int))) : lq11_0 call n (m + 1) y = F11_0 (g25 call) (g26 call) (g27 call) (g28 call)  (lq11_0 call n m) y := by kernel_rfl
noncomputable def q11 (call : CallFn E) (n : Nat) (a0 : LI_) : Option (Int × HK_ × Int × Int) := runHow E call n s11 a0 h11
theorem rr11 (call : CallFn E) (n : Nat) (a0 : LI_) : q11 call n a0 = r11 (g25 call) (g26 call) (g27 call) (g28 call) (lq11_0 call n n) a0 := by kernel_rfl
theorem gq11 (n : Nat) (a0 : LI_) : g11 (evalF E (n + 1)) a0 = q11 (evalF E n) n a0 := by kernel_rfl
noncomputable def q12 (call : CallFn E) (n : Nat) (a0 : Int) (a1 : HK_) (a2 : LI_) : Option (LI_ × Int) := runHow E call n s12 (a0, a1, a2) h12
theorem rr12 (call : CallFn E) (n : Nat) (a0 : Int) (a1 : HK_) (a2 : LI_) : q12 call n a0 a1 a2 = r12 (g29 call) (g30 call) (g31 call)  a0 a1 a2 := by kernel_rfl
theorem gq12 (n : Nat) (a0 : Int) (a1 : HK_) (a2 : LI_) : g12 (evalF E (n + 1)) a0 a1 a2 = q12 (evalF E n) n a0 a1 a2 := by kernel_rfl
def L13_0 : LH := ⟨[4, 5, 12, 13, 14], ⟨[.ref 0, .dat (.int .i64), .dat TH_, .dat (.int .i64), .dat (.int .i64)], [.row TK_]⟩, 0⟩
noncomputable def b13_0 : Code := codeAt c13 [1, 1, 1, 1, 0, 1, 0, 0]
noncomputable def lq13_0 (call : CallFn E) (n m : Nat) (y : Int × HK_ × Int × Int × HK_) : Option ((Int × HK_ × Int × Int × HK_) ⊕ (HK_ × Int)) := loopAt (ctxOf E call n s13 Tryz.f13 hs13) b13_0 [0, 1, 0, 1, 1, 1, 1] L13_0 m y
theorem lp13_0 (call : CallFn E) (n m : Nat) (y : Int × HK_ × Int × Int × HK_) : lq13_0 call n (m + 1) y = F13_0 (g32 call) (g33 call)  (lq13_0 call n m) y := by kernel_rfl
noncomputable def q13 (call : CallFn E) (n : Nat) (a0 : HK_) : Option (HK_ × Int) := runHow E call n s13 a0 h13
theorem rr13 (call : CallFn E) (n : Nat) (a0 : HK_) : q13 call n a0 = r13 (g32 call) (g33 call) (lq13_0 call n n) a0 := by kernel_rfl
theorem gq13 (n : Nat) (a0 : HK_) : g13 (evalF E (n + 1)) a0 = q13 (evalF E n) n a0 := by kernel_rfl
noncomputable def q14 (call : CallFn E) (n : Nat) (a0 : Int) : Option (ByteArray) := runHow E call n s14 a0 h14
theorem rr14 (call : CallFn E) (n : Nat) (a0 : Int) : q14 call n a0 = r14   a0 := by kernel_rfl
theorem gq14 (n : Nat) (a0 : Int) : g14 (evalF E (n + 1)) a0 = q14 (evalF E n) n a0 := by kernel_rfl
noncomputable def q15 (call : CallFn E) (n : Nat) (a0 : LI_) (a1 : Int) (a2 : Int) : Option (Bool) := runHow E call n s15 (a0, a1, a2) h15
theorem rr15 (call : CallFn E) (n : Nat) (a0 : LI_) (a1 : Int) (a2 : Int) : q15 call n a0 a1 a2 = r15   a0 a1 a2 := by kernel_rfl
theorem gq15 (n : Nat) (a0 : LI_) (a1 : Int) (a2 : Int) : g15 (evalF E (n + 1)) a0 a1 a2 = q15 (evalF E n) n a0 a1 a2 := by kernel_rfl
noncomputable def q16 (call : CallFn E) (n : Nat) (a0 : LI_) (a1 : Int) : Option (Int × Int × Int × Int) := runHow E call n s16 (a0, a1) h16
theorem rr16 (call : CallFn E) (n : Nat) (a0 : LI_) (a1 : Int) : q16 call n a0 a1 = r16 (g15 call) (g34 call)  a0 a1 := by kernel_rfl
theorem gq16 (n : Nat) (a0 : LI_) (a1 : Int) : g16 (evalF E (n + 1)) a0 a1 = q16 (evalF E n) n a0 a1 := by kernel_rfl
noncomputable def q17 (call : CallFn E) (n : Nat) (a0 : Int) (a1 : LI_) (a2 : Int) : Option (LI_ × Int) := runHow E call n s17 (a0, a1, a2) h17
theorem rr17 (call : CallFn E) (n : Nat) (a0 : Int) (a1 : LI_) (a2 : Int) : q17 call n a0 a1 a2 = r17 (g15 call) (g34 call) (g35 call)  a0 a1 a2 := by kernel_rfl
theorem gq17 (n : Nat) (a0 : Int) (a1 : LI_) (a2 : Int) : g17 (evalF E (n + 1)) a0 a1 a2 = q17 (evalF E n) n a0 a1 a2 := by kernel_rfl
def L25_0 : LH := ⟨[0, 5, 6, 7], ⟨[.ptr 0 0, .dat TI_, .dat (.int .i64), .dat (.int .i64)], [.var (.pair TB_ (.pair (.int .i64) (.one (.int .i64))))]⟩, 0⟩
noncomputable def b25_0 : Code := codeAt c25 [1, 0, 1, 0, 0]
noncomputable def lq25_0 (call : CallFn E) (n m : Nat) (y : LI_ × Int × Int × (LI_ × (Int × Int))) : Option ((LI_ × Int × Int × (LI_ × (Int × Int))) ⊕ (Bool × (LI_ × (Int × Int)))) := loopAt (ctxOf E call n s25 Tryz.f25 hs25) b25_0 [0, 1, 0, 1] L25_0 m y
theorem lp25_0 (call : CallFn E) (n m : Nat) (y : LI_ × Int × Int × (LI_ × (Int × Int))) : lq25_0 call n (m + 1) y = F25_0 (g28 call) (g62 call)  (lq25_0 call n m) y := by kernel_rfl
noncomputable def q25 (call : CallFn E) (n : Nat) (a0 : (LI_ × (Int × Int))) : Option (Bool × (LI_ × (Int × Int))) := runHow E call n s25 a0 h25
theorem rr25 (call : CallFn E) (n : Nat) (a0 : (LI_ × (Int × Int))) : q25 call n a0 = r25 (g28 call) (g62 call) (lq25_0 call n n) a0 := by kernel_rfl
theorem gq25 (n : Nat) (a0 : (LI_ × (Int × Int))) : g25 (evalF E (n + 1)) a0 = q25 (evalF E n) n a0 := by kernel_rfl
noncomputable def q26 (call : CallFn E) (n : Nat) (a0 : (LI_ × (Int × Int))) : Option (Int × Int × Int × Bool × (LI_ × (Int × Int))) := runHow E call n s26 a0 h26
theorem rr26 (call : CallFn E) (n : Nat) (a0 : (LI_ × (Int × Int))) : q26 call n a0 = r26 (g28 call) (g63 call)  a0 := by kernel_rfl
theorem gq26 (n : Nat) (a0 : (LI_ × (Int × Int))) : g26 (evalF E (n + 1)) a0 = q26 (evalF E n) n a0 := by kernel_rfl
def L27_0 : LH := ⟨[0, 4, 10, 11], ⟨[.ptr 0 0, .ref 1, .dat (.int .i64), .dat (.int .i64)], [.var (.pair TB_ (.pair (.int .i64) (.one (.int .i64)))), .row TB_]⟩, 0⟩
noncomputable def b27_0 : Code := codeAt c27 [1, 0, 1, 0, 0]
noncomputable def lq27_0 (call : CallFn E) (n m : Nat) (y : Int × Int × (LI_ × (Int × Int)) × LL_) : Option ((Int × Int × (LI_ × (Int × Int)) × LL_) ⊕ (LL_ × Int × Bool × (LI_ × (Int × Int)))) := loopAt (ctxOf E call n s27 Tryz.f27 hs27) b27_0 [0, 1, 0, 1] L27_0 m y
theorem lp27_0 (call : CallFn E) (n m : Nat) (y : Int × Int × (LI_ × (Int × Int)) × LL_) : lq27_0 call n (m + 1) y = F27_0 (g64 call)  (lq27_0 call n m) y := by kernel_rfl
noncomputable def q27 (call : CallFn E) (n : Nat) (a0 : Int) (a1 : (LI_ × (Int × Int))) : Option (LL_ × Int × Bool × (LI_ × (Int × Int))) := runHow E call n s27 (a0, a1) h27
theorem rr27 (call : CallFn E) (n : Nat) (a0 : Int) (a1 : (LI_ × (Int × Int))) : q27 call n a0 a1 = r27 (g64 call) (lq27_0 call n n) a0 a1 := by kernel_rfl
theorem gq27 (n : Nat) (a0 : Int) (a1 : (LI_ × (Int × Int))) : g27 (evalF E (n + 1)) a0 a1 = q27 (evalF E n) n a0 a1 := by kernel_rfl
noncomputable def q28 (call : CallFn E) (n : Nat) (a0 : ByteArray) (a1 : (LI_ × (Int × Int))) : Option (Bool × (LI_ × (Int × Int))) := runHow E call n s28 (a0, a1) h28
theorem rr28 (call : CallFn E) (n : Nat) (a0 : ByteArray) (a1 : (LI_ × (Int × Int))) : q28 call n a0 a1 = r28 (g65 call)  a0 a1 := by kernel_rfl
theorem gq28 (n : Nat) (a0 : ByteArray) (a1 : (LI_ × (Int × Int))) : g28 (evalF E (n + 1)) a0 a1 = q28 (evalF E n) n a0 a1 := by kernel_rfl
def L29_0 : LH := ⟨[0, 1, 6], ⟨[.dat (.int .i64), .dat TB_, .ref 0], [.row TB_]⟩, 0⟩
noncomputable def b29_0 : Code := codeAt c29 [1, 1, 1, 0, 0, 0]
noncomputable def lq29_0 (call : CallFn E) (n m : Nat) (y : Int × LI_ × LL_) : Option ((Int × LI_ × LL_) ⊕ (LL_ × Int)) := loopAt (ctxOf E call n s29 Tryz.f29 hs29) b29_0 [0, 0, 1, 1, 1] L29_0 m y
theorem lp29_0 (call : CallFn E) (n m : Nat) (y : Int × LI_ × LL_) : lq29_0 call n (m + 1) y = F29_0 (g66 call) (g67 call) (g68 call)  (lq29_0 call n m) y := by kernel_rfl
noncomputable def q29 (call : CallFn E) (n : Nat) (a0 : Int) (a1 : LI_) : Option (LL_ × Int) := runHow E call n s29 (a0, a1) h29
theorem rr29 (call : CallFn E) (n : Nat) (a0 : Int) (a1 : LI_) : q29 call n a0 a1 = r29 (g66 call) (g67 call) (g68 call) (lq29_0 call n n) a0 a1 := by kernel_rfl
theorem gq29 (n : Nat) (a0 : Int) (a1 : LI_) : g29 (evalF E (n + 1)) a0 a1 = q29 (evalF E n) n a0 a1 := by kernel_rfl
def L30_0 : LH := ⟨[1, 6, 7, 13, 14, 15], ⟨[.dat TT_, .ref 0, .dat (.int .i64), .dat TH_, .dat (.int .i64), .dat (.int .i64)], [.row TB_]⟩, 0⟩
noncomputable def b30_0 : Code := codeAt c30 [1, 1, 1, 1, 0, 1, 0, 0]
noncomputable def lq30_0 (call : CallFn E) (n m : Nat) (y : LL_ × Int × HK_ × Int × Int × LL_) : Option ((LL_ × Int × HK_ × Int × Int × LL_) ⊕ (LL_ × Int)) := loopAt (ctxOf E call n s30 Tryz.f30 hs30) b30_0 [0, 1, 0, 1, 1, 1, 1] L30_0 m y
theorem lp30_0 (call : CallFn E) (n m : Nat) (y : LL_ × Int × HK_ × Int × Int × LL_) : lq30_0 call n (m + 1) y = F30_0 (g32 call) (g33 call) (g69 call)  (lq30_0 call n m) y := by kernel_rfl
noncomputable def q30 (call : CallFn E) (n : Nat) (a0 : HK_) (a1 : LL_) : Option (LL_ × Int) := runHow E call n s30 (a0, a1) h30
theorem rr30 (call : CallFn E) (n : Nat) (a0 : HK_) (a1 : LL_) : q30 call n a0 a1 = r30 (g32 call) (g33 call) (g69 call) (lq30_0 call n n) a0 a1 := by kernel_rfl
theorem gq30 (n : Nat) (a0 : HK_) (a1 : LL_) : g30 (evalF E (n + 1)) a0 a1 = q30 (evalF E n) n a0 a1 := by kernel_rfl
def L31_0 : LH := ⟨[3, 6, 7, 8], ⟨[.ref 0, .dat TT_, .dat (.int .i64), .dat (.int .i64)], [.row (.int .u8)]⟩, 0⟩
noncomputable def b31_0 : Code := codeAt c31 [1, 1, 0, 1, 0, 0]
noncomputable def lq31_0 (call : CallFn E) (n m : Nat) (y : LL_ × Int × Int × LI_) : Option ((LL_ × Int × Int × LI_) ⊕ (LI_)) := loopAt (ctxOf E call n s31 Tryz.f31 hs31) b31_0 [0, 1, 0, 1, 1] L31_0 m y
theorem lp31_0 (call : CallFn E) (n m : Nat) (y : LL_ × Int × Int × LI_) : lq31_0 call n (m + 1) y = F31_0   (lq31_0 call n m) y := by kernel_rfl
noncomputable def q31 (call : CallFn E) (n : Nat) (a0 : LL_) : Option (LI_) := runHow E call n s31 a0 h31
theorem rr31 (call : CallFn E) (n : Nat) (a0 : LL_) : q31 call n a0 = r31  (lq31_0 call n n) a0 := by kernel_rfl
theorem gq31 (n : Nat) (a0 : LL_) : g31 (evalF E (n + 1)) a0 = q31 (evalF E n) n a0 := by kernel_rfl
def L32_0 : LH := ⟨[3, 6, 7, 8], ⟨[.dat (.int .i64), .dat TH_, .dat (.int .i64), .dat (.int .i64)], []⟩, 0⟩
noncomputable def b32_0 : Code := codeAt c32 [1, 1, 0, 1, 0, 0]
noncomputable def lq32_0 (call : CallFn E) (n m : Nat) (y : Int × HK_ × Int × Int) : Option ((Int × HK_ × Int × Int) ⊕ (Bool)) := loopAt (ctxOf E call n s32 Tryz.f32 hs32) b32_0 [0, 1, 0, 1, 1] L32_0 m y
theorem lp32_0 (call : CallFn E) (n m : Nat) (y : Int × HK_ × Int × Int) : lq32_0 call n (m + 1) y = F32_0 (g70 call)  (lq32_0 call n m) y := by kernel_rfl
noncomputable def q32 (call : CallFn E) (n : Nat) (a0 : HK_) : Option (Bool) := runHow E call n s32 a0 h32
theorem rr32 (call : CallFn E) (n : Nat) (a0 : HK_) : q32 call n a0 = r32 (g70 call) (lq32_0 call n n) a0 := by kernel_rfl
theorem gq32 (n : Nat) (a0 : HK_) : g32 (evalF E (n + 1)) a0 = q32 (evalF E n) n a0 := by kernel_rfl
def L33_0 : LH := ⟨[0, 7, 8, 9], ⟨[.ref 1, .dat TT_, .dat (.int .i64), .dat (.int .i64)], [.dead, .row TB_]⟩, 0⟩
noncomputable def b33_0 : Code := codeAt c33 [1, 0, 1, 0, 0]
noncomputable def lq33_0 (call : CallFn E) (n m : Nat) (y : LL_ × Int × Int × LL_) : Option ((LL_ × Int × Int × LL_) ⊕ (LL_)) := loopAt (ctxOf E call n s33 Tryz.f33 hs33) b33_0 [0, 1, 0, 1] L33_0 m y
theorem lp33_0 (call : CallFn E) (n m : Nat) (y : LL_ × Int × Int × LL_) : lq33_0 call n (m + 1) y = F33_0 (g68 call)  (lq33_0 call n m) y := by kernel_rfl
noncomputable def q33 (call : CallFn E) (n : Nat) (a0 : LL_) (a1 : LL_) : Option (LL_) := runHow E call n s33 (a0, a1) h33
theorem rr33 (call : CallFn E) (n : Nat) (a0 : LL_) (a1 : LL_) : q33 call n a0 a1 = r33 (g68 call) (lq33_0 call n n) a0 a1 := by kernel_rfl
theorem gq33 (n : Nat) (a0 : LL_) (a1 : LL_) : g33 (evalF E (n + 1)) a0 a1 = q33 (evalF E n) n a0 a1 := by kernel_rfl
def L34_0 : LH := ⟨[0, 1, 2, 8, 9], ⟨[.dat TB_, .dat (.int .i64), .dat (.int .i64), .dat (.int .i64), .dat (.int .i64)], []⟩, 0⟩
noncomputable def b34_0 : Code := codeAt c34 [1, 1, 0, 0, 0]
noncomputable def lq34_0 (call : CallFn E) (n m : Nat) (y : LI_ × Int × Int × Int × Int) : Option ((LI_ × Int × Int × Int × Int) ⊕ (Int × Int)) := loopAt (ctxOf E call n s34 Tryz.f34 hs34) b34_0 [0, 0, 1, 1] L34_0 m y
theorem lp34_0 (call : CallFn E) (n m : Nat) (y : LI_ × Int × Int × Int × Int) : lq34_0 call n (m + 1) y = F34_0   (lq34_0 call n m) y := by kernel_rfl
noncomputable def q34 (call : CallFn E) (n : Nat) (a0 : LI_) (a1 : Int) (a2 : Int) : Option (Int × Int) := runHow E call n s34 (a0, a1, a2) h34
theorem rr34 (call : CallFn E) (n : Nat) (a0 : LI_) (a1 : Int) (a2 : Int) : q34 call n a0 a1 a2 = r34  (lq34_0 call n n) a0 a1 a2 := by kernel_rfl
theorem gq34 (n : Nat) (a0 : LI_) (a1 : Int) (a2 : Int) : g34 (evalF E (n + 1)) a0 a1 a2 = q34 (evalF E n) n a0 a1 a2 := by kernel_rfl
def L35_0 : LH := ⟨[1, 5], ⟨[.dat TB_, .dat (.int .i64)], []⟩, 0⟩
noncomputable def b35_0 : Code := codeAt c35 [1, 1, 1, 0, 1, 0, 0]
noncomputable def lq35_0 (call : CallFn E) (n m : Nat) (y : LI_ × Int) : Option ((LI_ × Int) ⊕ (Bool)) := loopAt (ctxOf E call n s35 Tryz.f35 hs35) b35_0 [0, 1, 0, 1, 1, 1] L35_0 m y
theorem lp35_0 (call : CallFn E) (n m : Nat) (y : LI_ × Int) : lq35_0 call n (m + 1) y = F35_0   (lq35_0 call n m) y := by kernel_rfl
noncomputable def q35 (call : CallFn E) (n : Nat) (a0 : Int) (a1 : LI_) : Option (Bool) := runHow E call n s35 (a0, a1) h35
theorem rr35 (call : CallFn E) (n : Nat) (a0 : Int) (a1 : LI_) : q35 call n a0 a1 = r35  (lq35_0 call n n) a0 a1 := by kernel_rfl
theorem gq35 (n : Nat) (a0 : Int) (a1 : LI_) : g35 (evalF E (n + 1)) a0 a1 = q35 (evalF E n) n a0 a1 := by kernel_rfl
noncomputable def q62 (call : CallFn E) (n : Nat) (a0 : Int) : Option (ByteArray) := runHow E call n s62 a0 h62
theorem rr62 (call : CallFn E) (n : Nat) (a0 : Int) : q62 call n a0 = r62   a0 := by kernel_rfl
theorem gq62 (n : Nat) (a0 : Int) : g62 (evalF E (n + 1)) a0 = q62 (evalF E n) n a0 := by kernel_rfl
def L63_0 : LH := ⟨[0, 4, 5], ⟨[.ptr 0 0, .dat (.int .i64), .dat (.int .i64)], [.var (.pair TB_ (.pair (.int .i64) (.one (.int .i64))))]⟩, 0⟩
noncomputable def b63_0 : Code := codeAt c63 [1, 1, 0, 0, 0]
noncomputable def lq63_0 (call : CallFn E) (n m : Nat) (y : Int × Int × (LI_ × (Int × Int))) : Option ((Int × Int × (LI_ × (Int × Int))) ⊕ (Int × Bool × (LI_ × (Int × Int)))) := loopAt (ctxOf E call n s63 Tryz.f63 hs63) b63_0 [0, 0, 1, 1] L63_0 m y
theorem lp63_0 (call : CallFn E) (n m : Nat) (y : Int × Int × (LI_ × (Int × Int))) : lq63_0 call n (m + 1) y = F63_0   (lq63_0 call n m) y := by kernel_rfl
noncomputable def q63 (call : CallFn E) (n : Nat) (a0 : (LI_ × (Int × Int))) : Option (Int × Bool × (LI_ × (Int × Int))) := runHow E call n s63 a0 h63
theorem rr63 (call : CallFn E) (n : Nat) (a0 : (LI_ × (Int × Int))) : q63 call n a0 = r63  (lq63_0 call n n) a0 := by kernel_rfl
theorem gq63 (n : Nat) (a0 : (LI_ × (Int × Int))) : g63 (evalF E (n + 1)) a0 = q63 (evalF E n) n a0 := by kernel_rfl
noncomputable def q64 (call : CallFn E) (n : Nat) (a0 : (LI_ × (Int × Int))) : Option (LI_ × Bool × (LI_ × (Int × Int))) := runHow E call n s64 a0 h64
theorem rr64 (call : CallFn E) (n : Nat) (a0 : (LI_ × (Int × Int))) : q64 call n a0 = r64 (g28 call) (g63 call) (g68 call) (g105 call)  a0 := by kernel_rfl
theorem gq64 (n : Nat) (a0 : (LI_ × (Int × Int))) : g64 (evalF E (n + 1)) a0 = q64 (evalF E n) n a0 := by kernel_rfl
noncomputable def q65 (call : CallFn E) (n : Nat) (a0 : LI_) (a1 : LI_) : Option (Bool) := runHow E call n s65 (a0, a1) h65
theorem rr65 (call : CallFn E) (n : Nat) (a0 : LI_) (a1 : LI_) : q65 call n a0 a1 = r65 (g106 call)  a0 a1 := by kernel_rfl
theorem gq65 (n : Nat) (a0 : LI_) (a1 : LI_) : g65 (evalF E (n + 1)) a0 a1 = q65 (evalF E n) n a0 a1 := by kernel_rfl
noncomputable def q66 (call : CallFn E) (n : Nat) (a0 : Int) : Option (Bool) := runHow E call n s66 a0 h66
theorem rr66 (call : CallFn E) (n : Nat) (a0 : Int) : q66 call n a0 = r66   a0 := by kernel_rfl
theorem gq66 (n : Nat) (a0 : Int) : g66 (evalF E (n + 1)) a0 = q66 (evalF E n) n a0 := by kernel_rfl
noncomputable def q67 (call : CallFn E) (n : Nat) (a0 : LI_) (a1 : Int) : Option (Int) := runHow E call n s67 (a0, a1) h67
theorem rr67 (call : CallFn E) (n : Nat) (a0 : LI_) (a1 : Int) : q67 call n a0 a1 = r67 (g107 call)  a0 a1 := by kernel_rfl
theorem gq67 (n : Nat) (a0 : LI_) (a1 : Int) : g67 (evalF E (n + 1)) a0 a1 = q67 (evalF E n) n a0 a1 := by kernel_rfl
noncomputable def q69 (call : CallFn E) (n : Nat) (a0 : LL_) (a1 : LL_) (a2 : Int) : Option (Bool) := runHow E call n s69 (a0, a1, a2) h69
theorem rr69 (call : CallFn E) (n : Nat) (a0 : LL_) (a1 : LL_) (a2 : Int) : q69 call n a0 a1 a2 = r69 (g108 call)  a0 a1 a2 := by kernel_rfl
theorem gq69 (n : Nat) (a0 : LL_) (a1 : LL_) (a2 : Int) : g69 (evalF E (n + 1)) a0 a1 a2 = q69 (evalF E n) n a0 a1 a2 := by kernel_rfl
def L70_0 : LH := ⟨[5, 6, 7], ⟨[.dat TT_, .dat (.int .i64), .dat (.int .i64)], []⟩, 0⟩
noncomputable def b70_0 : Code := codeAt c70 [1, 0, 1, 0, 0]
noncomputable def lq70_0 (call : CallFn E) (n m : Nat) (y : LL_ × Int × Int) : Option ((LL_ × Int × Int) ⊕ (Bool)) := loopAt (ctxOf E call n s70 Tryz.f70 hs70) b70_0 [0, 1, 0, 1] L70_0 m y
theorem lp70_0 (call : CallFn E) (n m : Nat) (y : LL_ × Int × Int) : lq70_0 call n (m + 1) y = F70_0   (lq70_0 call n m) y := by kernel_rfl
noncomputable def q70 (call : CallFn E) (n : Nat) (a0 : LL_) : Option (Bool) := runHow E call n s70 a0 h70
theorem rr70 (call : CallFn E) (n : Nat) (a0 : LL_) : q70 call n a0 = r70  (lq70_0 call n n) a0 := by kernel_rfl
theorem gq70 (n : Nat) (a0 : LL_) : g70 (evalF E (n + 1)) a0 = q70 (evalF E n) n a0 := by kernel_rfl
noncomputable def q105 (call : CallFn E) (n : Nat) (a0 : Int) (a1 : LI_) : Option (Bool) := runHow E call n s105 (a0, a1) h105
theorem rr105 (call : CallFn E) (n : Nat) (a0 : Int) (a1 : LI_) : q105 call n a0 a1 = r105 (g67 call)  a0 a1 := by kernel_rfl
theorem gq105 (n : Nat) (a0 : Int) (a1 : LI_) : g105 (evalF E (n + 1)) a0 a1 = q105 (evalF E n) n a0 a1 := by kernel_rfl
noncomputable def q106 (call : CallFn E) (n : Nat) (a0 : LI_) (a1 : LI_) : Option (Bool) := runHow E call n s106 (a0, a1) h106
theorem rr106 (call : CallFn E) (n : Nat) (a0 : LI_) (a1 : LI_) : q106 call n a0 a1 = r106   a0 a1 := by kernel_rfl
theorem gq106 (n : Nat) (a0 : LI_) (a1 : LI_) : g106 (evalF E (n + 1)) a0 a1 = q106 (evalF E n) n a0 a1 := by kernel_rfl
def L108_0 : LH := ⟨[1, 2, 15, 16, 17], ⟨[.dat TT_, .fnc 106 [], .dat TT_, .dat (.int .i64), .dat (.int .i64)], []⟩, 0⟩
noncomputable def b108_0 : Code := codeAt c108 [1, 1, 0, 1, 0, 0]
noncomputable def lq108_0 (call : CallFn E) (n m : Nat) (y : LL_ × LL_ × Int × Int) : Option ((LL_ × LL_ × Int × Int) ⊕ (Bool)) := loopAt (ctxOf E call n s108 Tryz.f108 hs108) b108_0 [0, 1, 0, 1, 1] L108_0 m y
theorem lp108_0 (call : CallFn E) (n m : Nat) (y : LL_ × LL_ × Int × Int) : lq108_0 call n (m + 1) y = F108_0 (g106 call)  (lq108_0 call n m) y := by kernel_rfl
noncomputable def q108 (call : CallFn E) (n : Nat) (a0 : LL_) (a1 : LL_) : Option (Bool) := runHow E call n s108 (a0, a1) h108
theorem rr108 (call : CallFn E) (n : Nat) (a0 : LL_) (a1 : LL_) : q108 call n a0 a1 = r108 (g106 call) (lq108_0 call n n) a0 a1 := by kernel_rfl
theorem gq108 (n : Nat) (a0 : LL_) (a1 : LL_) : g108 (evalF E (n + 1)) a0 a1 = q108 (evalF E n) n a0 a1 := by kernel_rfl
noncomputable def R4 : Nat → Unit → Option (Bool) := fun n _ => evalF E n 4 ()
theorem e4 (n : Nat) : g4 (evalF E n) = R4 n := rfl
def R106 : Nat → LI_ → LI_ → Option (Bool)
  | 0, _, _ => none
  | n + 1, a0, a1 => r106   a0 a1
theorem u106 (n : Nat) (a0 : LI_) (a1 : LI_) : R106 (n + 1) a0 a1 = r106   a0 a1 := rfl
theorem e106 : ∀ (n : Nat), g106 (evalF E n) = R106 n
  | 0 => by funext a0 a1; rfl
  | n + 1 => by
    funext a0 a1
    rw [gq106, rr106]
    rfl
def R65 : Nat → LI_ → LI_ → Option (Bool)
  | 0, _, _ => none
  | n + 1, a0, a1 => r65 (R106 n)  a0 a1
theorem u65 (n : Nat) (a0 : LI_) (a1 : LI_) : R65 (n + 1) a0 a1 = r65 (R106 n)  a0 a1 := rfl
theorem e65 : ∀ (n : Nat), g65 (evalF E n) = R65 n
  | 0 => by funext a0 a1; rfl
  | n + 1 => by
    funext a0 a1
    rw [gq65, rr65]
    simp only [e106 n]
    rfl
def R28 : Nat → ByteArray → (LI_ × (Int × Int)) → Option (Bool × (LI_ × (Int × Int)))
  | 0, _, _ => none
  | n + 1, a0, a1 => r28 (R65 n)  a0 a1
theorem u28 (n : Nat) (a0 : ByteArray) (a1 : (LI_ × (Int × Int))) : R28 (n + 1) a0 a1 = r28 (R65 n)  a0 a1 := rfl
theorem e28 : ∀ (n : Nat), g28 (evalF E n) = R28 n
  | 0 => by funext a0 a1; rfl
  | n + 1 => by
    funext a0 a1
    rw [gq28, rr28]
    simp only [e65 n]
    rfl
def R62 : Nat → Int → Option (ByteArray)
  | 0, _ => none
  | n + 1, a0 => r62   a0
theorem u62 (n : Nat) (a0 : Int) : R62 (n + 1) a0 = r62   a0 := rfl
theorem e62 : ∀ (n : Nat), g62 (evalF E n) = R62 n
  | 0 => by funext a0; rfl
  | n + 1 => by
    funext a0
    rw [gq62, rr62]
    rfl
def R25 : Nat → (LI_ × (Int × Int)) → Option (Bool × (LI_ × (Int × Int)))
  | 0, _ => none
  | n + 1, a0 => r25 (R28 n) (R62 n) (iter (F25_0 (R28 n) (R62 n) ) n) a0
def J25_0 (n m : Nat) : (LI_ × Int × Int × (LI_ × (Int × Int))) → Option ((LI_ × Int × Int × (LI_ × (Int × Int))) ⊕ (Bool × (LI_ × (Int × Int)))) := iter (F25_0 (R28 n) (R62 n) ) m
theorem j25_0 (n m : Nat) (x : LI_ × Int × Int × (LI_ × (Int × Int))) : J25_0 n (m + 1) x = F25_0 (R28 n) (R62 n)  (J25_0 n m) x := rfl
theorem u25 (n : Nat) (a0 : (LI_ × (Int × Int))) : R25 (n + 1) a0 = r25 (R28 n) (R62 n) (J25_0 n n) a0 := rfl
theorem e25 : ∀ (n : Nat), g25 (evalF E n) = R25 n
  | 0 => by funext a0; rfl
  | n + 1 => by
    have l0 : lq25_0 (evalF E n) n n = (iter (F25_0 (R28 n) (R62 n) ) n) := iter_of (g := lq25_0 (evalF E n) n) rfl (fun m y => by rw [lp25_0]; simp only [e28 n, e62 n]) n
    funext a0
    rw [gq25, rr25]
    simp only [e28 n, e62 n, l0]
    rfl
def R63 : Nat → (LI_ × (Int × Int)) → Option (Int × Bool × (LI_ × (Int × Int)))
  | 0, _ => none
  | n + 1, a0 => r63  (iter (F63_0  ) n) a0
def J63_0 (n m : Nat) : (Int × Int × (LI_ × (Int × Int))) → Option ((Int × Int × (LI_ × (Int × Int))) ⊕ (Int × Bool × (LI_ × (Int × Int)))) := iter (F63_0  ) m
theorem j63_0 (n m : Nat) (x : Int × Int × (LI_ × (Int × Int))) : J63_0 n (m + 1) x = F63_0   (J63_0 n m) x := rfl
theorem u63 (n : Nat) (a0 : (LI_ × (Int × Int))) : R63 (n + 1) a0 = r63  (J63_0 n n) a0 := rfl
theorem e63 : ∀ (n : Nat), g63 (evalF E n) = R63 n
  | 0 => by funext a0; rfl
  | n + 1 => by
    have l0 : lq63_0 (evalF E n) n n = (iter (F63_0  ) n) := iter_of (g := lq63_0 (evalF E n) n) rfl (fun m y => by rw [lp63_0]) n
    funext a0
    rw [gq63, rr63]
    simp only [l0]
    rfl
def R26 : Nat → (LI_ × (Int × Int)) → Option (Int × Int × Int × Bool × (LI_ × (Int × Int)))
  | 0, _ => none
  | n + 1, a0 => r26 (R28 n) (R63 n)  a0
theorem u26 (n : Nat) (a0 : (LI_ × (Int × Int))) : R26 (n + 1) a0 = r26 (R28 n) (R63 n)  a0 := rfl
theorem e26 : ∀ (n : Nat), g26 (evalF E n) = R26 n
  | 0 => by funext a0; rfl
  | n + 1 => by
    funext a0
    rw [gq26, rr26]
    simp only [e28 n, e63 n]
    rfl
def R68 : Nat → LI_ → Option (LI_)
  | 0, _ => none
  | _ + 1, a0 => BytesX.cloneB a0
theorem e68 (n : Nat) : g68 (evalF E n) = R68 n := by cases n <;> rfl
def R107 : Nat → LI_ → Int → Option (Int)
  | 0, _, _ => none
  | _ + 1, a0, a1 => BytesX.indexB (a0, a1)
theorem e107 (n : Nat) : g107 (evalF E n) = R107 n := by cases n <;> rfl
def R67 : Nat → LI_ → Int → Option (Int)
  | 0, _, _ => none
  | n + 1, a0, a1 => r67 (R107 n)  a0 a1
theorem u67 (n : Nat) (a0 : LI_) (a1 : Int) : R67 (n + 1) a0 a1 = r67 (R107 n)  a0 a1 := rfl
theorem e67 : ∀ (n : Nat), g67 (evalF E n) = R67 n
  | 0 => by funext a0 a1; rfl
  | n + 1 => by
    funext a0 a1
    rw [gq67, rr67]
    simp only [e107 n]
    rfl
def R105 : Nat → Int → LI_ → Option (Bool)
  | 0, _, _ => none
  | n + 1, a0, a1 => r105 (R67 n)  a0 a1
theorem u105 (n : Nat) (a0 : Int) (a1 : LI_) : R105 (n + 1) a0 a1 = r105 (R67 n)  a0 a1 := rfl
theorem e105 : ∀ (n : Nat), g105 (evalF E n) = R105 n
  | 0 => by funext a0 a1; rfl
  | n + 1 => by
    funext a0 a1
    rw [gq105, rr105]
    simp only [e67 n]
    rfl
def R64 : Nat → (LI_ × (Int × Int)) → Option (LI_ × Bool × (LI_ × (Int × Int)))
  | 0, _ => none
  | n + 1, a0 => r64 (R28 n) (R63 n) (R68 n) (R105 n)  a0
theorem u64 (n : Nat) (a0 : (LI_ × (Int × Int))) : R64 (n + 1) a0 = r64 (R28 n) (R63 n) (R68 n) (R105 n)  a0 := rfl
theorem e64 : ∀ (n : Nat), g64 (evalF E n) = R64 n
  | 0 => by funext a0; rfl
  | n + 1 => by
    funext a0
    rw [gq64, rr64]
    simp only [e28 n, e63 n, e68 n, e105 n]
    rfl
def R27 : Nat → Int → (LI_ × (Int × Int)) → Option (LL_ × Int × Bool × (LI_ × (Int × Int)))
  | 0, _, _ => none
  | n + 1, a0, a1 => r27 (R64 n) (iter (F27_0 (R64 n) ) n) a0 a1
def J27_0 (n m : Nat) : (Int × Int × (LI_ × (Int × Int)) × LL_) → Option ((Int × Int × (LI_ × (Int × Int)) × LL_) ⊕ (LL_ × Int × Bool × (LI_ × (Int × Int)))) := iter (F27_0 (R64 n) ) m
theorem j27_0 (n m : Nat) (x : Int × Int × (LI_ × (Int × Int)) × LL_) : J27_0 n (m + 1) x = F27_0 (R64 n)  (J27_0 n m) x := rfl
theorem u27 (n : Nat) (a0 : Int) (a1 : (LI_ × (Int × Int))) : R27 (n + 1) a0 a1 = r27 (R64 n) (J27_0 n n) a0 a1 := rfl
theorem e27 : ∀ (n : Nat), g27 (evalF E n) = R27 n
  | 0 => by funext a0 a1; rfl
  | n + 1 => by
    have l0 : lq27_0 (evalF E n) n n = (iter (F27_0 (R64 n) ) n) := iter_of (g := lq27_0 (evalF E n) n) rfl (fun m y => by rw [lp27_0]; simp only [e64 n]) n
    funext a0 a1
    rw [gq27, rr27]
    simp only [e64 n, l0]
    rfl
def R11 : Nat → LI_ → Option (Int × HK_ × Int × Int)
  | 0, _ => none
  | n + 1, a0 => r11 (R25 n) (R26 n) (R27 n) (R28 n) (iter (F11_0 (R25 n) (R26 n) (R27 n) (R28 n) ) n) a0
def J11_0 (n m : Nat) : (LI_ × Int × HK_ × (LI_ × (Int × Int))) → Option ((LI_ × Int × HK_ × (LI_ × (Int × Int))) ⊕ (Int × HK_ × Int × Int)) := iter (F11_0 (R25 n) (R26 n) (R27 n) (R28 n) ) m
theorem j11_0 (n m : Nat) (x : LI_ × Int × HK_ × (LI_ × (Int × Int))) : J11_0 n (m + 1) x = F11_0 (R25 n) (R26 n) (R27 n) (R28 n)  (J11_0 n m) x := rfl
theorem u11 (n : Nat) (a0 : LI_) : R11 (n + 1) a0 = r11 (R25 n) (R26 n) (R27 n) (R28 n) (J11_0 n n) a0 := rfl
theorem e11 : ∀ (n : Nat), g11 (evalF E n) = R11 n
  | 0 => by funext a0; rfl
  | n + 1 => by
    have l0 : lq11_0 (evalF E n) n n = (iter (F11_0 (R25 n) (R26 n) (R27 n) (R28 n) ) n) := iter_of (g := lq11_0 (evalF E n) n) rfl (fun m y => by rw [lp11_0]; simp only [e25 n, e26 n, e27 n, e28 n]) n
    funext a0
    rw [gq11, rr11]
    simp only [e25 n, e26 n, e27 n, e28 n, l0]
    rfl
def R66 : Nat → Int → Option (Bool)
  | 0, _ => none
  | n + 1, a0 => r66   a0
theorem u66 (n : Nat) (a0 : Int) : R66 (n + 1) a0 = r66   a0 := rfl
theorem e66 : ∀ (n : Nat), g66 (evalF E n) = R66 n
  | 0 => by funext a0; rfl
  | n + 1 => by
    funext a0
    rw [gq66, rr66]
    rfl
def R29 : Nat → Int → LI_ → Option (LL_ × Int)
  | 0, _, _ => none
  | n + 1, a0, a1 => r29 (R66 n) (R67 n) (R68 n) (iter (F29_0 (R66 n) (R67 n) (R68 n) ) n) a0 a1
def J29_0 (n m : Nat) : (Int × LI_ × LL_) → Option ((Int × LI_ × LL_) ⊕ (LL_ × Int)) := iter (F29_0 (R66 n) (R67 n) (R68 n) ) m
theorem j29_0 (n m : Nat) (x : Int × LI_ × LL_) : J29_0 n (m + 1) x = F29_0 (R66 n) (R67 n) (R68 n)  (J29_0 n m) x := rfl
theorem u29 (n : Nat) (a0 : Int) (a1 : LI_) : R29 (n + 1) a0 a1 = r29 (R66 n) (R67 n) (R68 n) (J29_0 n n) a0 a1 := rfl
theorem e29 : ∀ (n : Nat), g29 (evalF E n) = R29 n
  | 0 => by funext a0 a1; rfl
  | n + 1 => by
    have l0 : lq29_0 (evalF E n) n n = (iter (F29_0 (R66 n) (R67 n) (R68 n) ) n) := iter_of (g := lq29_0 (evalF E n) n) rfl (fun m y => by rw [lp29_0]; simp only [e66 n, e67 n, e68 n]) n
    funext a0 a1
    rw [gq29, rr29]
    simp only [e66 n, e67 n, e68 n, l0]
    rfl
def R70 : Nat → LL_ → Option (Bool)
  | 0, _ => none
  | n + 1, a0 => r70  (iter (F70_0  ) n) a0
def J70_0 (n m : Nat) : (LL_ × Int × Int) → Option ((LL_ × Int × Int) ⊕ (Bool)) := iter (F70_0  ) m
theorem j70_0 (n m : Nat) (x : LL_ × Int × Int) : J70_0 n (m + 1) x = F70_0   (J70_0 n m) x := rfl
theorem u70 (n : Nat) (a0 : LL_) : R70 (n + 1) a0 = r70  (J70_0 n n) a0 := rfl
theorem e70 : ∀ (n : Nat), g70 (evalF E n) = R70 n
  | 0 => by funext a0; rfl
  | n + 1 => by
    have l0 : lq70_0 (evalF E n) n n = (iter (F70_0  ) n) := iter_of (g := lq70_0 (evalF E n) n) rfl (fun m y => by rw [lp70_0]) n
    funext a0
    rw [gq70, rr70]
    simp only [l0]
    rfl
def R32 : Nat → HK_ → Option (Bool)
  | 0, _ => none
  | n + 1, a0 => r32 (R70 n) (iter (F32_0 (R70 n) ) n) a0
def J32_0 (n m : Nat) : (Int × HK_ × Int × Int) → Option ((Int × HK_ × Int × Int) ⊕ (Bool)) := iter (F32_0 (R70 n) ) m
theorem j32_0 (n m : Nat) (x : Int × HK_ × Int × Int) : J32_0 n (m + 1) x = F32_0 (R70 n)  (J32_0 n m) x := rfl
theorem u32 (n : Nat) (a0 : HK_) : R32 (n + 1) a0 = r32 (R70 n) (J32_0 n n) a0 := rfl
theorem e32 : ∀ (n : Nat), g32 (evalF E n) = R32 n
  | 0 => by funext a0; rfl
  | n + 1 => by
    have l0 : lq32_0 (evalF E n) n n = (iter (F32_0 (R70 n) ) n) := iter_of (g := lq32_0 (evalF E n) n) rfl (fun m y => by rw [lp32_0]; simp only [e70 n]) n
    funext a0
    rw [gq32, rr32]
    simp only [e70 n, l0]
    rfl
def R33 : Nat → LL_ → LL_ → Option (LL_)
  | 0, _, _ => none
  | n + 1, a0, a1 => r33 (R68 n) (iter (F33_0 (R68 n) ) n) a0 a1
def J33_0 (n m : Nat) : (LL_ × Int × Int × LL_) → Option ((LL_ × Int × Int × LL_) ⊕ (LL_)) := iter (F33_0 (R68 n) ) m
theorem j33_0 (n m : Nat) (x : LL_ × Int × Int × LL_) : J33_0 n (m + 1) x = F33_0 (R68 n)  (J33_0 n m) x := rfl
theorem u33 (n : Nat) (a0 : LL_) (a1 : LL_) : R33 (n + 1) a0 a1 = r33 (R68 n) (J33_0 n n) a0 a1 := rfl
theorem e33 : ∀ (n : Nat), g33 (evalF E n) = R33 n
  | 0 => by funext a0 a1; rfl
  | n + 1 => by
    have l0 : lq33_0 (evalF E n) n n = (iter (F33_0 (R68 n) ) n) := iter_of (g := lq33_0 (evalF E n) n) rfl (fun m y => by rw [lp33_0]; simp only [e68 n]) n
    funext a0 a1
    rw [gq33, rr33]
    simp only [e68 n, l0]
    rfl
def R108 : Nat → LL_ → LL_ → Option (Bool)
  | 0, _, _ => none
  | n + 1, a0, a1 => r108 (R106 n) (iter (F108_0 (R106 n) ) n) a0 a1
def J108_0 (n m : Nat) : (LL_ × LL_ × Int × Int) → Option ((LL_ × LL_ × Int × Int) ⊕ (Bool)) := iter (F108_0 (R106 n) ) m
theorem j108_0 (n m : Nat) (x : LL_ × LL_ × Int × Int) : J108_0 n (m + 1) x = F108_0 (R106 n)  (J108_0 n m) x := rfl
theorem u108 (n : Nat) (a0 : LL_) (a1 : LL_) : R108 (n + 1) a0 a1 = r108 (R106 n) (J108_0 n n) a0 a1 := rfl
theorem e108 : ∀ (n : Nat), g108 (evalF E n) = R108 n
  | 0 => by funext a0 a1; rfl
  | n + 1 => by
    have l0 : lq108_0 (evalF E n) n n = (iter (F108_0 (R106 n) ) n) := iter_of (g := lq108_0 (evalF E n) n) rfl (fun m y => by rw [lp108_0]; simp only [e106 n]) n
    funext a0 a1
    rw [gq108, rr108]
    simp only [e106 n, l0]
    rfl
def R69 : Nat → LL_ → LL_ → Int → Option (Bool)
  | 0, _, _, _ => none
  | n + 1, a0, a1, a2 => r69 (R108 n)  a0 a1 a2
theorem u69 (n : Nat) (a0 : LL_) (a1 : LL_) (a2 : Int) : R69 (n + 1) a0 a1 a2 = r69 (R108 n)  a0 a1 a2 := rfl
theorem e69 : ∀ (n : Nat), g69 (evalF E n) = R69 n
  | 0 => by funext a0 a1 a2; rfl
  | n + 1 => by
    funext a0 a1 a2
    rw [gq69, rr69]
    simp only [e108 n]
    rfl
def R30 : Nat → HK_ → LL_ → Option (LL_ × Int)
  | 0, _, _ => none
  | n + 1, a0, a1 => r30 (R32 n) (R33 n) (R69 n) (iter (F30_0 (R32 n) (R33 n) (R69 n) ) n) a0 a1
def J30_0 (n m : Nat) : (LL_ × Int × HK_ × Int × Int × LL_) → Option ((LL_ × Int × HK_ × Int × Int × LL_) ⊕ (LL_ × Int)) := iter (F30_0 (R32 n) (R33 n) (R69 n) ) m
theorem j30_0 (n m : Nat) (x : LL_ × Int × HK_ × Int × Int × LL_) : J30_0 n (m + 1) x = F30_0 (R32 n) (R33 n) (R69 n)  (J30_0 n m) x := rfl
theorem u30 (n : Nat) (a0 : HK_) (a1 : LL_) : R30 (n + 1) a0 a1 = r30 (R32 n) (R33 n) (R69 n) (J30_0 n n) a0 a1 := rfl
theorem e30 : ∀ (n : Nat), g30 (evalF E n) = R30 n
  | 0 => by funext a0 a1; rfl
  | n + 1 => by
    have l0 : lq30_0 (evalF E n) n n = (iter (F30_0 (R32 n) (R33 n) (R69 n) ) n) := iter_of (g := lq30_0 (evalF E n) n) rfl (fun m y => by rw [lp30_0]; simp only [e32 n, e33 n, e69 n]) n
    funext a0 a1
    rw [gq30, rr30]
    simp only [e32 n, e33 n, e69 n, l0]
    rfl
def R31 : Nat → LL_ → Option (LI_)
  | 0, _ => none
  | n + 1, a0 => r31  (iter (F31_0  ) n) a0
def J31_0 (n m : Nat) : (LL_ × Int × Int × LI_) → Option ((LL_ × Int × Int × LI_) ⊕ (LI_)) := iter (F31_0  ) m
theorem j31_0 (n m : Nat) (x : LL_ × Int × Int × LI_) : J31_0 n (m + 1) x = F31_0   (J31_0 n m) x := rfl
theorem u31 (n : Nat) (a0 : LL_) : R31 (n + 1) a0 = r31  (J31_0 n n) a0 := rfl
theorem e31 : ∀ (n : Nat), g31 (evalF E n) = R31 n
  | 0 => by funext a0; rfl
  | n + 1 => by
    have l0 : lq31_0 (evalF E n) n n = (iter (F31_0  ) n) := iter_of (g := lq31_0 (evalF E n) n) rfl (fun m y => by rw [lp31_0]) n
    funext a0
    rw [gq31, rr31]
    simp only [l0]
    rfl
def R12 : Nat → Int → HK_ → LI_ → Option (LI_ × Int)
  | 0, _, _, _ => none
  | n + 1, a0, a1, a2 => r12 (R29 n) (R30 n) (R31 n)  a0 a1 a2
theorem u12 (n : Nat) (a0 : Int) (a1 : HK_) (a2 : LI_) : R12 (n + 1) a0 a1 a2 = r12 (R29 n) (R30 n) (R31 n)  a0 a1 a2 := rfl
theorem e12 : ∀ (n : Nat), g12 (evalF E n) = R12 n
  | 0 => by funext a0 a1 a2; rfl
  | n + 1 => by
    funext a0 a1 a2
    rw [gq12, rr12]
    simp only [e29 n, e30 n, e31 n]
    rfl
def R5 : Nat → LI_ → LI_ → Option (LI_ × Int × Int)
  | 0, _, _ => none
  | n + 1, a0, a1 => r5 (R11 n) (R12 n)  a0 a1
theorem u5 (n : Nat) (a0 : LI_) (a1 : LI_) : R5 (n + 1) a0 a1 = r5 (R11 n) (R12 n)  a0 a1 := rfl
theorem e5 : ∀ (n : Nat), g5 (evalF E n) = R5 n
  | 0 => by funext a0 a1; rfl
  | n + 1 => by
    funext a0 a1
    rw [gq5, rr5]
    simp only [e11 n, e12 n]
    rfl
def R13 : Nat → HK_ → Option (HK_ × Int)
  | 0, _ => none
  | n + 1, a0 => r13 (R32 n) (R33 n) (iter (F13_0 (R32 n) (R33 n) ) n) a0
def J13_0 (n m : Nat) : (Int × HK_ × Int × Int × HK_) → Option ((Int × HK_ × Int × Int × HK_) ⊕ (HK_ × Int)) := iter (F13_0 (R32 n) (R33 n) ) m
theorem j13_0 (n m : Nat) (x : Int × HK_ × Int × Int × HK_) : J13_0 n (m + 1) x = F13_0 (R32 n) (R33 n)  (J13_0 n m) x := rfl
theorem u13 (n : Nat) (a0 : HK_) : R13 (n + 1) a0 = r13 (R32 n) (R33 n) (J13_0 n n) a0 := rfl
theorem e13 : ∀ (n : Nat), g13 (evalF E n) = R13 n
  | 0 => by funext a0; rfl
  | n + 1 => by
    have l0 : lq13_0 (evalF E n) n n = (iter (F13_0 (R32 n) (R33 n) ) n) := iter_of (g := lq13_0 (evalF E n) n) rfl (fun m y => by rw [lp13_0]; simp only [e32 n, e33 n]) n
    funext a0
    rw [gq13, rr13]
    simp only [e32 n, e33 n, l0]
    rfl
def R6 : Nat → LI_ → LI_ → Option (LI_ × Int × Int)
  | 0, _, _ => none
  | n + 1, a0, a1 => r6 (R11 n) (R12 n) (R13 n)  a0 a1
theorem u6 (n : Nat) (a0 : LI_) (a1 : LI_) : R6 (n + 1) a0 a1 = r6 (R11 n) (R12 n) (R13 n)  a0 a1 := rfl
theorem e6 : ∀ (n : Nat), g6 (evalF E n) = R6 n
  | 0 => by funext a0 a1; rfl
  | n + 1 => by
    funext a0 a1
    rw [gq6, rr6]
    simp only [e11 n, e12 n, e13 n]
    rfl
noncomputable def R3 : Nat → LI_ → LI_ → Option (Bool)
  | 0, _, _ => none
  | n + 1, a0, a1 => r3 (R4 n) (R5 n) (R6 n) (rest3 (evalF E n) n)  a0 a1
theorem u3 (n : Nat) (a0 : LI_) (a1 : LI_) : R3 (n + 1) a0 a1 = r3 (R4 n) (R5 n) (R6 n) (rest3 (evalF E n) n)  a0 a1 := rfl
theorem e3 : ∀ (n : Nat), g3 (evalF E n) = R3 n
  | 0 => by funext a0 a1; rfl
  | n + 1 => by
    funext a0 a1
    rw [gq3, rr3]
    simp only [e4 n, e5 n, e6 n]
    rfl
def R14 : Nat → Int → Option (ByteArray)
  | 0, _ => none
  | n + 1, a0 => r14   a0
theorem u14 (n : Nat) (a0 : Int) : R14 (n + 1) a0 = r14   a0 := rfl
theorem e14 : ∀ (n : Nat), g14 (evalF E n) = R14 n
  | 0 => by funext a0; rfl
  | n + 1 => by
    funext a0
    rw [gq14, rr14]
    rfl
def R15 : Nat → LI_ → Int → Int → Option (Bool)
  | 0, _, _, _ => none
  | n + 1, a0, a1, a2 => r15   a0 a1 a2
theorem u15 (n : Nat) (a0 : LI_) (a1 : Int) (a2 : Int) : R15 (n + 1) a0 a1 a2 = r15   a0 a1 a2 := rfl
theorem e15 : ∀ (n : Nat), g15 (evalF E n) = R15 n
  | 0 => by funext a0 a1 a2; rfl
  | n + 1 => by
    funext a0 a1 a2
    rw [gq15, rr15]
    rfl
def R34 : Nat → LI_ → Int → Int → Option (Int × Int)
  | 0, _, _, _ => none
  | n + 1, a0, a1, a2 => r34  (iter (F34_0  ) n) a0 a1 a2
def J34_0 (n m : Nat) : (LI_ × Int × Int × Int × Int) → Option ((LI_ × Int × Int × Int × Int) ⊕ (Int × Int)) := iter (F34_0  ) m
theorem j34_0 (n m : Nat) (x : LI_ × Int × Int × Int × Int) : J34_0 n (m + 1) x = F34_0   (J34_0 n m) x := rfl
theorem u34 (n : Nat) (a0 : LI_) (a1 : Int) (a2 : Int) : R34 (n + 1) a0 a1 a2 = r34  (J34_0 n n) a0 a1 a2 := rfl
theorem e34 : ∀ (n : Nat), g34 (evalF E n) = R34 n
  | 0 => by funext a0 a1 a2; rfl
  | n + 1 => by
    have l0 : lq34_0 (evalF E n) n n = (iter (F34_0  ) n) := iter_of (g := lq34_0 (evalF E n) n) rfl (fun m y => by rw [lp34_0]) n
    funext a0 a1 a2
    rw [gq34, rr34]
    simp only [l0]
    rfl
def R16 : Nat → LI_ → Int → Option (Int × Int × Int × Int)
  | 0, _, _ => none
  | n + 1, a0, a1 => r16 (R15 n) (R34 n)  a0 a1
theorem u16 (n : Nat) (a0 : LI_) (a1 : Int) : R16 (n + 1) a0 a1 = r16 (R15 n) (R34 n)  a0 a1 := rfl
theorem e16 : ∀ (n : Nat), g16 (evalF E n) = R16 n
  | 0 => by funext a0 a1; rfl
  | n + 1 => by
    funext a0 a1
    rw [gq16, rr16]
    simp only [e15 n, e34 n]
    rfl
def R35 : Nat → Int → LI_ → Option (Bool)
  | 0, _, _ => none
  | n + 1, a0, a1 => r35  (iter (F35_0  ) n) a0 a1
def J35_0 (n m : Nat) : (LI_ × Int) → Option ((LI_ × Int) ⊕ (Bool)) := iter (F35_0  ) m
theorem j35_0 (n m : Nat) (x : LI_ × Int) : J35_0 n (m + 1) x = F35_0   (J35_0 n m) x := rfl
theorem u35 (n : Nat) (a0 : Int) (a1 : LI_) : R35 (n + 1) a0 a1 = r35  (J35_0 n n) a0 a1 := rfl
theorem e35 : ∀ (n : Nat), g35 (evalF E n) = R35 n
  | 0 => by funext a0 a1; rfl
  | n + 1 => by
    have l0 : lq35_0 (evalF E n) n n = (iter (F35_0  ) n) := iter_of (g := lq35_0 (evalF E n) n) rfl (fun m y => by rw [lp35_0]) n
    funext a0 a1
    rw [gq35, rr35]
    simp only [l0]
    rfl
def R17 : Nat → Int → LI_ → Int → Option (LI_ × Int)
  | 0, _, _, _ => none
  | n + 1, a0, a1, a2 => r17 (R15 n) (R34 n) (R35 n)  a0 a1 a2
theorem u17 (n : Nat) (a0 : Int) (a1 : LI_) (a2 : Int) : R17 (n + 1) a0 a1 a2 = r17 (R15 n) (R34 n) (R35 n)  a0 a1 a2 := rfl
theorem e17 : ∀ (n : Nat), g17 (evalF E n) = R17 n
  | 0 => by funext a0 a1 a2; rfl
  | n + 1 => by
    funext a0 a1 a2
    rw [gq17, rr17]
    simp only [e15 n, e34 n, e35 n]
    rfl
def R7 : Nat → LI_ → Option (Int × HK_ × Int × Int)
  | 0, _ => none
  | n + 1, a0 => r7 (R14 n) (R15 n) (R16 n) (R17 n) (iter (F7_0 (R14 n) (R15 n) (R16 n) (R17 n) (iter (F7_2 (R14 n) (R15 n) (R16 n) (R17 n) ) n)) n) (iter (F7_1 (R14 n) (R15 n) (R16 n) (R17 n) ) n) (iter (F7_2 (R14 n) (R15 n) (R16 n) (R17 n) ) n) a0
def J7_2 (n m : Nat) : (LI_ × Int × Int × Int × Int × Int × HK_ × (Int × (LL_ × LL_))) → Option ((LI_ × Int × Int × Int × Int × Int × HK_ × (Int × (LL_ × LL_))) ⊕ (Int × HK_ × Int × Int)) := iter (F7_2 (R14 n) (R15 n) (R16 n) (R17 n) ) m
theorem j7_2 (n m : Nat) (x : LI_ × Int × Int × Int × Int × Int × HK_ × (Int × (LL_ × LL_))) : J7_2 n (m + 1) x = F7_2 (R14 n) (R15 n) (R16 n) (R17 n)  (J7_2 n m) x := rfl
def J7_0 (n m : Nat) : (LI_ × Int × Int × HK_) → Option ((LI_ × Int × Int × HK_) ⊕ (Int × HK_ × Int × Int)) := iter (F7_0 (R14 n) (R15 n) (R16 n) (R17 n) (J7_2 n n)) m
theorem j7_0 (n m : Nat) (x : LI_ × Int × Int × HK_) : J7_0 n (m + 1) x = F7_0 (R14 n) (R15 n) (R16 n) (R17 n) (J7_2 n n) (J7_0 n m) x := rfl
def J7_1 (n m : Nat) : (LI_ × Int × Int × Int) → Option ((LI_ × Int × Int × Int) ⊕ (Int × HK_ × Int × Int)) := iter (F7_1 (R14 n) (R15 n) (R16 n) (R17 n) ) m
theorem j7_1 (n m : Nat) (x : LI_ × Int × Int × Int) : J7_1 n (m + 1) x = F7_1 (R14 n) (R15 n) (R16 n) (R17 n)  (J7_1 n m) x := rfl
theorem u7 (n : Nat) (a0 : LI_) : R7 (n + 1) a0 = r7 (R14 n) (R15 n) (R16 n) (R17 n) (J7_0 n n) (J7_1 n n) (J7_2 n n) a0 := rfl
theorem e7 : ∀ (n : Nat), g7 (evalF E n) = R7 n
  | 0 => by funext a0; rfl
  | n + 1 => by
    have l2 : lq7_2 (evalF E n) n n = (iter (F7_2 (R14 n) (R15 n) (R16 n) (R17 n) ) n) := iter_of (g := lq7_2 (evalF E n) n) rfl (fun m y => by rw [lp7_2]; simp only [e14 n, e15 n, e16 n, e17 n]) n
    have l0 : lq7_0 (evalF E n) n n = (iter (F7_0 (R14 n) (R15 n) (R16 n) (R17 n) (iter (F7_2 (R14 n) (R15 n) (R16 n) (R17 n) ) n)) n) := iter_of (g := lq7_0 (evalF E n) n) rfl (fun m y => by rw [lp7_0]; simp only [e14 n, e15 n, e16 n, e17 n, l2]) n
    have l1 : lq7_1 (evalF E n) n n = (iter (F7_1 (R14 n) (R15 n) (R16 n) (R17 n) ) n) := iter_of (g := lq7_1 (evalF E n) n) rfl (fun m y => by rw [lp7_1]; simp only [e14 n, e15 n, e16 n, e17 n]) n
    funext a0
    rw [gq7, rr7]
    simp only [e14 n, e15 n, e16 n, e17 n, l0, l1, l2]
    rfl
theorem law_R (n : Nat) (a0 : LI_) (a1 : LI_) : runHow E (evalF E n) n s3 (a0, a1) h3 = R3 (n + 1) a0 a1 := (gq3 n a0 a1).symm.trans (congrFun (congrFun (e3 (n + 1)) a0) a1)
theorem okAll : EntriesOK Tryz.prog NoX 0 E.fns := ⟨trivial,
  trivial,
  trivial,
  ok3 NoX,
  ok4 NoX,
  ok5 NoX,
  ok6 NoX,
  ok7 NoX,
  ok8 NoX,
  ok9 NoX,
  ok10 NoX,
  ok11 NoX,
  ok12 NoX,
  ok13 NoX,
  ok14 NoX,
  ok15 NoX,
  ok16 NoX,
  ok17 NoX,
  ok18 NoX,
  ok19 NoX,
  ok20 NoX,
  ok21 NoX,
  ok22 NoX,
  ok23 NoX,
  ok24 NoX,
  ok25 NoX,
  ok26 NoX,
  ok27 NoX,
  ok28 NoX,
  ok29 NoX,
  ok30 NoX,
  ok31 NoX,
  ok32 NoX,
  ok33 NoX,
  ok34 NoX,
  ok35 NoX,
  ok36 NoX,
  fun _ _ _ h => PortX.Of_spec NoX_ok h,
  ok38 NoX,
  ok39 NoX,
  ok40 NoX,
  trivial,
  trivial,
  trivial,
  trivial,
  trivial,
  trivial,
  trivial,
  trivial,
  ok49 NoX,
  ok50 NoX,
  ok51 NoX,
  ok52 NoX,
  ok53 NoX,
  ok54 NoX,
  ok55 NoX,
  ok56 NoX,
  ok57 NoX,
  ok58 NoX,
  fun _ _ _ h => PortX.next_spec NoX_ok h,
  ok60 NoX,
  ok61 NoX,
  ok62 NoX,
  ok63 NoX,
  ok64 NoX,
  ok65 NoX,
  ok66 NoX,
  ok67 NoX,
  fun _ _ _ h => NameX.Clone_spec h,
  ok69 NoX,
  ok70 NoX,
  ok71 NoX,
  ok72 NoX,
  ok73 NoX,
  fun _ _ _ h => PortX.Behind_spec NoX_ok h,
  trivial,
  trivial,
  trivial,
  trivial,
  trivial,
  trivial,
  trivial,
  trivial,
  trivial,
  trivial,
  trivial,
  trivial,
  trivial,
  trivial,
  trivial,
  trivial,
  trivial,
  trivial,
  trivial,
  trivial,
  trivial,
  trivial,
  trivial,
  ok98 NoX,
  ok99 NoX,
  ok100 NoX,
  ok101 NoX,
  ok102 NoX,
  fun _ _ _ h => PortX.CloneI_spec NoX_ok h,
  ok104 NoX,
  ok105 NoX,
  ok106 NoX,
  fun _ _ _ h => PortX.IndexByte_spec h,
  ok108 NoX,
  ok109 NoX,
  fun _ _ _ h => PortX.Count_spec h,
  ok111 NoX,
  ok112 NoX,
  ok113 NoX,
  ok114 NoX,
  trivial,
  trivial,
  trivial,
  trivial,
  trivial,
  trivial,
  trivial,
  trivial,
  trivial,
  trivial,
  trivial,
  trivial,
  trivial,
  trivial,
  trivial,
  trivial,
  trivial,
  trivial,
  trivial,
  trivial,
  fun _ _ _ h => NameX.CloneR_spec h,
  fun _ _ _ h => NameX.SortR_spec h,
  ok137 NoX,
  fun _ _ _ h => NameX.CompactR_spec h,
  fun _ _ _ h => NameX.GrowR_spec h,
  ok140 NoX,
  ok141 NoX,
  trivial,
  ok143 NoX,
  ok144 NoX,
  ok145 NoX,
  ok146 NoX,
  trivial,
  trivial,
  trivial,
  trivial,
  trivial,
  trivial,
  trivial,
  trivial,
  trivial,
  trivial,
  trivial,
  trivial,
  trivial,
  trivial,
  trivial,
  trivial,
  trivial,
  trivial,
  fun _ _ _ h => NameX.Compare_spec h,
  ok166 NoX,
  ok167 NoX,
  ok168 NoX,
  ok169 NoX,
  ok170 NoX, trivial⟩
theorem mixed : Tryz.prog.follows .mixedOrders = true := by kernel_rfl
theorem calls (n : Nat) : CallOK Tryz.prog NoX E (evalF E n) := evalF_sound NoX_ok tys mixed (entries_fn okAll) n
end Go.Proofs.YtakjaafenhdpjaaGreat.ETopAnyBytes
