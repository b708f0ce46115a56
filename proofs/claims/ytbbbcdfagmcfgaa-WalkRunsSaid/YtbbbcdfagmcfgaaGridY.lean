/- The table of tattingref7.Ahead as data. -/
import Derived.Test.YtbbbcdfagmcfgaaGridX
import Derived.Test.YtbbbcdfagmcfgaaAhdT
namespace Go.Proofs.Ytbbbcdfagmcfgaa.GridY
open Go Go.RowKit Go.Proofs.YtbbbcdfagmcfgaaW.PrintWords Go.Proofs.YtbbbcdfagmcfgaaW.PrintLast Go.Proofs.Ytbbbcdfagmcfgaa.AE Go.Proofs.Ytbbbcdfagmcfgaa.VecMath Go.Proofs.Ytbbbcdfagmcfgaa.GridX
set_option linter.unusedVariables false
section
variable {X : ExtRep}
def ahdS (x : List Int × List Int) : Option (List (List Int)) := if x.1.length ≤ 1000 ∧ x.2.length ≤ 1000 then some (Pure.gridF x.1 x.2) else none
theorem Ahead_spec (hX : X.OK) {x : List Int × List Int} {y : List (List Int)} (h : ahdS x = some y) : AE.Spec Try.prog X ⟨⟨[.dat (.slice (.int .i64)), .dat (.slice (.int .i64))], []⟩, ⟨[.dat (.slice (.slice (.int .i64)))], []⟩⟩ 32 x y := by
  obtain ⟨a, b⟩ := x
  refine Spec_of_calls hX Try.func32 (by decide) rfl fun S w vals hS _ hv => ?_
  obtain ⟨v, u, rfl, h1, h2⟩ := VRs.two (a := .sl (.int .i64) a) (b := .sl (.int .i64) b) hv
  obtain ⟨A0, c0, rfl, q1, q2⟩ := C_of h1
  obtain ⟨A1, c1, rfl, q3, q4⟩ := C_of h2
  unfold ahdS at h
  split at h
  · rename_i hl
    have hy : Pure.gridF a b = y := Option.some.inj h
    obtain ⟨k, hk⟩ := (Pure.ahead_is a b hl.1 hl.2).rounds
    rw [hy] at hk
    refine (PV.tattingref7_Ahead.calls k A0 c0 a A1 c1 b y w q2 q1 q4 q3 hk).mono ?_
    rintro e w' ⟨v0, rfl, ho, hb⟩
    exact ⟨[v0], rfl, hb, .cons (of_S ho fun b h1 h2 => ⟨hS b h1, h2, fun o ho => by cases ho⟩) .nil⟩
  · cases h
end
end Go.Proofs.Ytbbbcdfagmcfgaa.GridY
