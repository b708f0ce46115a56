/- What bytes are searched by, cloned to; the digits of a number. (For seats without a table in memory.) -/
import Derived.Lib.ItoaNum
import Derived.Test.YtgelkklendpeoaaGreatAeB
namespace Go.Proofs.YtgelkklendpeoaaGreat.BytesX
open Go Go.RowKit Go.Lib Go.Proofs.YtgelkklendpeoaaGreat.AE
set_option linter.unusedVariables false
set_option linter.unusedSimpArgs false
def idxB : List Int → Int → Int
  | [], _ => -1
  | x :: l, c => if x == c then 0 else if idxB l c == -1 then -1 else idxB l c + 1
def indexB (x : List Int × Int) : Option Int := if (x.1.all fun y => decide (0 ≤ y ∧ y < 256)) && decide (0 ≤ x.2 ∧ x.2 < 256) then some (idxB x.1 x.2) else none
def cloneB (l : List Int) : Option (List Int) := if l.length ≤ 70368744177664 then some l else none
/-! The digits of a number. -/
def digB : Nat → Nat → List Int
  | 0, _ => []
  | f + 1, u => if u < 10 then [((48 + u : Nat) : Int)] else digB f (u / 10) ++ [((48 + u % 10 : Nat) : Int)]
theorem digB_eq : ∀ (f u : Nat), u < 10 ^ (f + 1) → digB (f + 1) u = (Lib.decDigits u).map fun b => (b.toNat : Int) := by
  intro f
  induction f with
  | zero =>
    intro u hu
    rw [Lib.decDigits]
    simp at hu
    simp [digB, hu]
    omega
  | succ f ih =>
    intro u hu
    rw [Lib.decDigits]
    by_cases h : u < 10
    · simp [digB, h]; omega
    · have hd : u / 10 < 10 ^ (f + 1) := by
        rw [Nat.pow_succ] at hu
        exact Nat.div_lt_of_lt_mul (by omega)
      rw [digB, if_neg h, ih _ hd]
      simp [h]
      omega
end Go.Proofs.YtgelkklendpeoaaGreat.BytesX
