import Derived.Test.YtbbbcdfagmcfgaaWP
import Derived.Test.YtbbbcdfagmcfgaaVecMath
namespace Go.Proofs.Ytbbbcdfagmcfgaa.VecSpec
open Go.RowKit Go.Proofs.YtbbbcdfagmcfgaaW.PrintWords Go.Proofs.YtbbbcdfagmcfgaaW.PrintMore Go.Proofs.Ytbbbcdfagmcfgaa.XBits Go.Proofs.Ytbbbcdfagmcfgaa.VecMath Go.Proofs.Ytbbbcdfagmcfgaa.PV

theorem at_is (x : List Int) (h : OK x) (i : Nat) : vec_at.f x (i : Int) = some (wd (val x) i : Int) := by
  unfold vec_at.f
  by_cases hi : (i : Int) < (x.length : Int)
  · rw [if_pos hi, if_pos (Int.natCast_nonneg _)]
    unfold rd
    rw [Int.toNat_natCast, val_word h]
  · rw [if_neg hi, ← val_word h, List.getD_eq_getElem?_getD, List.getElem?_eq_none (by omega)]
    rfl
theorem wd_and (X Y k : Nat) : wd (X &&& Y) k = wd X k &&& wd Y k := by
  apply Nat.eq_of_testBit_eq
  intro j
  rw [Nat.testBit_and, wd_testBit, wd_testBit, wd_testBit, Nat.testBit_and]
  cases decide (j < 64) <;> simp
theorem wd_or (X Y k : Nat) : wd (X ||| Y) k = wd X k ||| wd Y k := by
  apply Nat.eq_of_testBit_eq
  intro j
  rw [Nat.testBit_or, wd_testBit, wd_testBit, wd_testBit, Nat.testBit_or]
  cases decide (j < 64) <;> simp
/-- The greater length. -/
def mlen (x y : List Int) : Nat := max x.length y.length
theorem mx_len (x y : List Int) : mx (x.length : Int) (y.length : Int) = (mlen x y : Int) := by
  unfold mx mlen
  split <;> omega
end Go.Proofs.Ytbbbcdfagmcfgaa.VecSpec
