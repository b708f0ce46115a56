import Derived.Test.YtgelkklendpeoaaGreatAeB
namespace Go.Proofs.YtgelkklendpeoaaGreat.AE
open Go
set_option linter.unusedVariables false
/-! Reasoning about residues. -/
theorem w64 {x : Int} (h1 : -9223372036854775808 ≤ x) (h2 : x ≤ 9223372036854775807) : IntKind.wrap .i64 x = x := by
  simp only [IntKind.wrap, IntKind.signed, IntKind.bits, Bool.true_and]
  split <;> rename_i h <;> simp at h <;> omega
theorem wu64 {x : Int} (h1 : 0 ≤ x) (h2 : x ≤ 18446744073709551615) : IntKind.wrap .u64 x = x := by
  simp only [IntKind.wrap, IntKind.signed, IntKind.bits, Bool.false_and, Bool.false_eq_true, if_false]
  omega
theorem wf_i64 {x : Int} (h : WF (.int .i64) x) : -9223372036854775808 ≤ x ∧ x ≤ 9223372036854775807 := by
  have h' : (Lit.int .i64 x).wf = true := h
  simp [Lit.wf, IntKind.min, IntKind.max, IntKind.signed, IntKind.bits] at h'
  exact h'
theorem wf_u16 {x : Int} (h : WF (.int .u16) x) : 0 ≤ x ∧ x ≤ 65535 := by
  have h' : (Lit.int .u16 x).wf = true := h
  simp [Lit.wf, IntKind.min, IntKind.max, IntKind.signed, IntKind.bits] at h'
  exact h'
theorem wf_u8 {x : Int} (h : WF (.int .u8) x) : 0 ≤ x ∧ x ≤ 255 := by
  have h' : (Lit.int .u8 x).wf = true := h
  simp [Lit.wf, IntKind.min, IntKind.max, IntKind.signed, IntKind.bits] at h'
  exact h'
/-- A LOOP: an invariant, a measure, what is told. -/
theorem iter_rule {X O : Type} {F : (X → Option (X ⊕ O)) → X → Option (X ⊕ O)} (I : X → Prop) (μ : X → Nat) (Q : X ⊕ O → Prop)
    (step : ∀ (x : X) (self : X → Option (X ⊕ O)), I x → (∀ y, I y → μ y < μ x → ∃ r, self y = some r ∧ Q r) → ∃ r, F self x = some r ∧ Q r) :
    ∀ (m : Nat) (x : X), I x → μ x < m → ∃ r, iter F m x = some r ∧ Q r
  | 0, x, _, h => by omega
  | m + 1, x, hi, h => step x (iter F m) hi fun y hy hlt => iter_rule I μ Q step m y hy (by omega)
end Go.Proofs.YtgelkklendpeoaaGreat.AE
