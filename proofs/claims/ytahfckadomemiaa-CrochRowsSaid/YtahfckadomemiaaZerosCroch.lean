import Derived.Test.YtahfckadomemiaaPVx1
import Derived.Test.YtahfckadomemiaaPVx2
import Derived.Test.YtahfckadomemiaaLcsN
import Derived.Test.YtahfckadomemiaaMaskRowsCroch
namespace Go.Proofs.Ytahfckadomemiaa.PV
open Go.RowKit Go.Proofs.Ytahfckadomemiaa.VecMath Go.Proofs.Ytahfckadomemiaa.VecSpec Go.Proofs.Ytahfckadomemiaa.Masks RowSpec
theorem mkb (b : List Int) (y : Int) : ∀ j i, (mk b y j).testBit i = (decide (i < j) && (b.getD i 0 == y))
  | 0, i => by simp [mk]
  | j + 1, i => by
    unfold mk
    by_cases e : b.getD j 0 = y
    · rw [if_pos e, Nat.testBit_or, mkb b y j i]
      by_cases h : i = j
      · subst h; rw [e]; simp
      · rw [Nat.testBit_two_pow_of_ne (by omega), Bool.or_false]
        congr 1
        simp; omega
    · rw [if_neg e, mkb b y j i]
      by_cases h : i = j
      · subst h; rw [show (b.getD i 0 == y) = false from beq_eq_false_iff_ne.mpr e]; simp
      · congr 1
        simp; omega
/-- The zeros of a row up to a place are the table's number there. -/
theorem zeros (a b : List Int) (hw : wid (b.length : Int) = b.length) : ∀ i j, j ≤ b.length → cnt (stN a b i) j + tabN a b i j = j
  | 0, j, h => by
    unfold stN
    rw [hw, cnt_ones _ j h]
    simp [tabN]
  | i + 1, j, h => by
    have hv : stN a b i % 2 ^ b.length = stN a b i := Nat.mod_eq_of_lt (by have := stN_lt a b i; rw [hw] at this; exact this)
    have h1 := cnt_row (stN a b i) (mk b (a.getD i 0) b.length) b.length j h
    have h2 := tab_step a b i b.length (stN a b i) (mk b (a.getD i 0) b.length) (fun j hj => by rw [low_bit _ _ _ hj, mkb]; simp [hj]) (fun j hj => by rw [hv]; exact zeros a b hw i j hj) j h
    have h3 := zeros a b hw i j h
    rw [hv] at h1
    rw [hv] at h2
    show cnt (rowN (stN a b i) (mk b (a.getD i 0) b.length) (wid (b.length : Int))) j + _ = j
    rw [hw, h2]
    omega
end Go.Proofs.Ytahfckadomemiaa.PV
