import Derived.Test.YtbbbcdfagmcfgaaWP
import Derived.Test.YtbbbcdfagmcfgaaRowN
namespace Go.Proofs.Ytbbbcdfagmcfgaa.RowSpec
open Go.RowKit Go.Proofs.Ytbbbcdfagmcfgaa.VecMath Go.Proofs.Ytbbbcdfagmcfgaa.VecSpec
/-- The next row has up to each place as many ones, or one less. -/
theorem cnt_row (V U w : Nat) : ∀ j, j ≤ w → cnt (V % 2 ^ w) j = cnt (rowN V U w) j + (decide (car (V % 2 ^ w) (V % 2 ^ w &&& U % 2 ^ w) (2 ^ j) = 1)).toNat
  | 0, _ => by rw [car_zero]; rfl
  | j + 1, h => by
    have ih := cnt_row V U w j (by omega)
    show cnt _ j + ((V % 2 ^ w).testBit j).toNat = cnt _ j + ((rowN V U w).testBit j).toNat + _
    rw [car_bit]
    have e : (rowN V U w).testBit j = ((V % 2 ^ w + (V % 2 ^ w &&& U % 2 ^ w)).testBit j || ((V % 2 ^ w).testBit j && !(V % 2 ^ w &&& U % 2 ^ w).testBit j)) := by
      unfold rowN
      rw [low_bit _ _ _ (by omega), Nat.testBit_or, sub_bit (V % 2 ^ w) (V % 2 ^ w &&& U % 2 ^ w) (fun i hi => by rw [Nat.testBit_and, Bool.and_eq_true] at hi; exact hi.1)]
    rw [e, bit_add]
    simp only [Nat.testBit_and]
    revert ih
    generalize decide (car (V % 2 ^ w) (V % 2 ^ w &&& U % 2 ^ w) (2 ^ j) = 1) = c
    generalize (V % 2 ^ w).testBit j = v
    generalize (U % 2 ^ w).testBit j = u
    intro ih
    rw [ih]
    cases c <;> cases v <;> cases u <;> simp <;> omega
end Go.Proofs.Ytbbbcdfagmcfgaa.RowSpec
