import Derived.Test.YtbbbcdfagmcfgaaWP
import Derived.Test.YtbbbcdfagmcfgaaCarMono
import Derived.Test.YtbbbcdfagmcfgaaMasks
namespace Go.Proofs.Ytbbbcdfagmcfgaa.RowSpec
open Go.RowKit Go.Proofs.Ytbbbcdfagmcfgaa.VecMath Go.Proofs.Ytbbbcdfagmcfgaa.VecSpec Go.Proofs.Ytbbbcdfagmcfgaa.Masks
/-- The table: the longest list of the first i and the first j. -/
def tabN (a b : List Int) : Nat → Nat → Nat
  | 0, _ => 0
  | _, 0 => 0
  | i + 1, j + 1 => if a.getD i 0 = b.getD j 0 then tabN a b i j + 1 else max (tabN a b i (j + 1)) (tabN a b (i + 1) j)
theorem tab_zero (a b : List Int) : ∀ i, tabN a b i 0 = 0
  | 0 => by simp [tabN]
  | _ + 1 => by simp [tabN]
/-- One number more: up to each place the zeros of the next row are the next row of the table. -/
theorem tab_step (a b : List Int) (i w V U : Nat) (hU : ∀ j, j < w → (U % 2 ^ w).testBit j = (b.getD j 0 == a.getD i 0))
    (hV : ∀ j, j ≤ w → cnt (V % 2 ^ w) j + tabN a b i j = j) :
    ∀ j, j ≤ w → tabN a b (i + 1) j = tabN a b i j + (decide (car (V % 2 ^ w) (V % 2 ^ w &&& U % 2 ^ w) (2 ^ j) = 1)).toNat
  | 0, _ => by rw [tab_zero, tab_zero, car_zero]; rfl
  | j + 1, h => by
    have ih := tab_step a b i w V U hU hV j (by omega)
    have h1 := hV j (by omega)
    have h2 : cnt (V % 2 ^ w) j + ((V % 2 ^ w).testBit j).toNat + tabN a b i (j + 1) = j + 1 := hV (j + 1) h
    have hu := hU j (by omega)
    rw [car_bit]
    simp only [Nat.testBit_and]
    have ht : tabN a b (i + 1) (j + 1) = if a.getD i 0 = b.getD j 0 then tabN a b i j + 1 else max (tabN a b i (j + 1)) (tabN a b (i + 1) j) := by rw [tabN]
    rw [ht, ih]
    revert h2 hu
    generalize decide (car (V % 2 ^ w) (V % 2 ^ w &&& U % 2 ^ w) (2 ^ j) = 1) = c
    generalize (V % 2 ^ w).testBit j = v
    generalize (U % 2 ^ w).testBit j = u
    intro h2 hu
    by_cases e : a.getD i 0 = b.getD j 0
    · rw [if_pos e]
      rw [e, beq_self_eq_true] at hu
      subst hu
      cases c <;> cases v <;> simp at h2 ⊢ <;> omega
    · rw [if_neg e]
      rw [beq_eq_false_iff_ne.mpr (fun h => e h.symm)] at hu
      subst hu
      cases c <;> cases v <;> simp at h2 ⊢ <;> omega
theorem ones_bit (w i : Nat) : (2 ^ w - 1).testBit i = decide (i < w) := Nat.testBit_two_pow_sub_one w i
theorem cnt_ones (w : Nat) : ∀ j, j ≤ w → cnt (2 ^ w - 1) j = j
  | 0, _ => rfl
  | j + 1, h => by
    show cnt _ j + ((2 ^ w - 1).testBit j).toNat = j + 1
    rw [cnt_ones w j (by omega), ones_bit]
    simp
    omega
end Go.Proofs.Ytbbbcdfagmcfgaa.RowSpec
