import Derived.Test.YtbbbcdfagmcfgaaAeB
import Derived.Test.YtbbbcdfagmcfgaaXBits
import Derived.Test.YtbbbcdfagmcfgaaProg
namespace Go.Proofs.Ytbbbcdfagmcfgaa.AE
open Go Go.Proofs.Ytbbbcdfagmcfgaa.XBits
set_option linter.unusedVariables false
theorem Add64_spec (X : ExtRep) {x : Int × Int × Int} {y : Int × Int} (h : add64 x = some y) : Spec Try.prog X ⟨⟨[.dat (.int .u64), .dat (.int .u64), .dat (.int .u64)], []⟩, ⟨[.dat (.int .u64), .dat (.int .u64)], []⟩⟩ 66 x y := by
  obtain ⟨a, b, c⟩ := x
  refine Spec_of_run fun ok w vals hv => ?_
  obtain ⟨v1, v2, v3, rfl, h1, h2, h3⟩ := VRs.three (a := .int .u64 a) (b := .int .u64 b) (c := .int .u64 c) hv
  obtain rfl : v1 = .int .u64 a := h1
  obtain rfl : v2 = .int .u64 b := h2
  obtain rfl : v3 = .int .u64 c := h3
  simp only [add64] at h
  split at h
  · rename_i hc
    cases h
    refine ⟨[.int .u64 (add64s a b c), .int .u64 (add64c a b c)], ?_, .cons rfl (.cons rfl .nil)⟩
    rw [run_callFunc_extern Try.func66 (by kernel_rfl) (by kernel_rfl) (by kernel_rfl) (e := add64E) (by kernel_rfl), add64E_run a b c hc w]
    rfl
  · cases h
theorem Sub64_spec (X : ExtRep) {x : Int × Int × Int} {y : Int × Int} (h : sub64 x = some y) : Spec Try.prog X ⟨⟨[.dat (.int .u64), .dat (.int .u64), .dat (.int .u64)], []⟩, ⟨[.dat (.int .u64), .dat (.int .u64)], []⟩⟩ 67 x y := by
  obtain ⟨a, b, c⟩ := x
  refine Spec_of_run fun ok w vals hv => ?_
  obtain ⟨v1, v2, v3, rfl, h1, h2, h3⟩ := VRs.three (a := .int .u64 a) (b := .int .u64 b) (c := .int .u64 c) hv
  obtain rfl : v1 = .int .u64 a := h1
  obtain rfl : v2 = .int .u64 b := h2
  obtain rfl : v3 = .int .u64 c := h3
  simp only [sub64] at h
  split at h
  · rename_i hc
    cases h
    refine ⟨[.int .u64 (sub64s a b c), .int .u64 (sub64c a b c)], ?_, .cons rfl (.cons rfl .nil)⟩
    rw [run_callFunc_extern Try.func67 (by kernel_rfl) (by kernel_rfl) (by kernel_rfl) (e := sub64E) (by kernel_rfl), sub64E_run a b c hc w]
    rfl
  · cases h
end Go.Proofs.Ytbbbcdfagmcfgaa.AE
