import Derived.Test.YtahfckadomemiaaPVx7
import Derived.Test.YtahfckadomemiaaVecRef
import Derived.Test.YtahfckadomemiaaVecSpecs
namespace Go.Proofs.Ytahfckadomemiaa.VecRef2
open Go.RowKit Go.Proofs.YtahfckadomemiaaW.PrintWords Go.Proofs.YtahfckadomemiaaW.PrintMore Go.Proofs.Ytahfckadomemiaa.VecMath Go.Proofs.Ytahfckadomemiaa.VecRef Go.Proofs.Ytahfckadomemiaa.PV
open VecSpec (wid wds wid_le wds_le wid_wds inv inv_testBit)

/-! What the reference of chapter 5 computes: widths. -/
theorem Width_is (n : Int) : tattingref5_Width.f n = some (wid n : Int) := by
  unfold tattingref5_Width.f wid
  split
  · congr 1
    omega
  · split
    · congr 1
      omega
    · congr 1
      omega
theorem Words_is (n : Int) : tattingref5_Words.f n = some (wds n : Int) := by
  have h := wid_le n
  unfold tattingref5_Words.f
  rw [Width_is, Option.bind_some]
  show _ = some (((wid n + 63) / 64 : Nat) : Int)
  generalize wid n = w at *
  rw [wrap64_id (n := (w : Int) + 63) (by omega) (by omega), Int.tdiv_eq_ediv_of_nonneg (by omega), wrap64_id (by omega) (by omega)]
  congr 1
theorem bits_done (N w : Nat) : ((List.range w).map fun i => N.testBit i) = bitsOf N w := rfl
theorem laid_wid (N : Nat) (n : Int) : Ev (fun k => tattingref5_Laid.f k (bitsOf N (wid n)) (wds n : Int)) (lay (N % 2 ^ wid n) (wds n)) := by
  have h1 := wid_le n
  have h2 := wds_le n
  exact Laid_is N (wid n) (wds n) (Nat.lt_of_le_of_lt h1 (by decide)) (Nat.le_trans h2 (by decide))
end Go.Proofs.Ytahfckadomemiaa.VecRef2
