import Derived.Test.YtjidbphhcekelaaGreatAeB
namespace Go.Proofs.YtjidbphhcekelaaGreat.AE
open Go
set_option linter.unusedVariables false
/-! Reasoning about residues. -/
theorem w64 {x : Int} (h1 : -9223372036854775808 ≤ x) (h2 : x ≤ 9223372036854775807) : IntKind.wrap .i64 x = x := by
  simp only [IntKind.wrap, IntKind.signed, IntKind.bits, Bool.true_and]
  split <;> rename_i h <;> simp at h <;> omega
theorem wf_u8 {x : Int} (h : WF (.int .u8) x) : 0 ≤ x ∧ x ≤ 255 := by
  have h' : (Lit.int .u8 x).wf = true := h
  simp [Lit.wf, IntKind.min, IntKind.max, IntKind.signed, IntKind.bits] at h'
  exact h'
end Go.Proofs.YtjidbphhcekelaaGreat.AE
