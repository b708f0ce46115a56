import Derived.Test.YtnnihdhjphmohaaPVx4
import Derived.Test.YtnnihdhjphmohaaPVx5
import Derived.Test.YtnnihdhjphmohaaVecRef
import Derived.Test.YtnnihdhjphmohaaVecSpecWid
import Derived.Test.YtnnihdhjphmohaaVecSpecNot
namespace Go.Proofs.Ytnnihdhjphmohaa.VecRef2
open Go.RowKit Go.Proofs.YtnnihdhjphmohaaW.PrintWords Go.Proofs.YtnnihdhjphmohaaW.PrintMore Go.Proofs.Ytnnihdhjphmohaa.VecMath Go.Proofs.Ytnnihdhjphmohaa.VecRef Go.Proofs.Ytnnihdhjphmohaa.PV
open VecSpec (wid wds wid_le wds_le wid_wds inv inv_testBit)

/-! What the reference of chapter 5 computes: widths. -/
theorem Width_is (n : Int) : tattingref5_Width.f n = some (wid n : Int) := by
  unfold tattingref5_Width.f wid
  split
  · congr 1
    omega
  · split
    · congr 1
      omega
    · congr 1
      omega
theorem Words_is (n : Int) : tattingref5_Words.f n = some (wds n : Int) := by
  have h := wid_le n
  unfold tattingref5_Words.f
  rw [Width_is, Option.bind_some]
  show _ = some (((wid n + 63) / 64 : Nat) : Int)
  generalize wid n = w at *
  rw [wrap64_id (n := (w : Int) + 63) (by omega) (by omega), Int.tdiv_eq_ediv_of_nonneg (by omega), wrap64_id (by omega) (by omega)]
  congr 1
theorem bits_done (N w : Nat) : ((List.range w).map fun i => N.testBit i) = bitsOf N w := rfl
theorem laid_wid (N : Nat) (n : Int) : Ev (fun k => tattingref5_Laid.f k (bitsOf N (wid n)) (wds n : Int)) (lay (N % 2 ^ wid n) (wds n)) := by
  have h1 := wid_le n
  have h2 := wds_le n
  exact Laid_is N (wid n) (wds n) (Nat.lt_of_le_of_lt h1 (by decide)) (Nat.le_trans h2 (by decide))
theorem Fit_is (x : List Int) (n : Int) (hx : OK x) : Ev (fun k => tattingref5_Fit.f k x n) (lay (val x % 2 ^ wid n) (wds n)) := by
  have hL := laid_wid (val x) n
  have hW := Words_is n
  have hw := wid_le n
  have h0 : (0 : Int) ≤ (wid n : Int) := Int.natCast_nonneg _
  have h1 : wid n ≤ 281474976710656 := Nat.le_trans hw (by decide)
  unfold tattingref5_Fit.f
  rw [Width_is]
  simp only [Option.bind_some, Int.toNat_natCast, if_pos h0, if_pos h1]
  generalize wid n = w at *
  exact fillE (fun k z (_ : Unit) i => tattingref5_Fit.l0 k x n z i) w (fun _ => ()) (fun i => (val x).testBit i) (lay (val x % 2 ^ w) (wds n)) (fun z i hi hz h => by
    have hlt : (i : Int) < (z.length : Int) := by omega
    have hi0 : (0 : Int) ≤ (i : Int) := Int.natCast_nonneg _
    refine Ev.step (fun k => ?_) h
    simp only [tattingref5_Fit.l0]
    rw [if_pos hlt, Get_nat x hx i (by omega), Option.bind_some, if_pos hi0, next_ i _ hi (by omega), Int.toNat_natCast]) (by
    refine Ev.step (f := fun k => (tattingref5_Laid.f k (bitsOf (val x) w) (wds n : Int)).bind fun t => some t) (fun k => ?_) (Ev.bind hL (Ev.now _))
    have hlt : ¬ ((w : Int) < ((List.map (fun i => (val x).testBit i) (List.range w)).length : Int)) := by simp
    simp only [tattingref5_Fit.l0]
    rw [if_neg hlt, hW, Option.bind_some]
    rfl) (List.replicate w false) (by simp)
end Go.Proofs.Ytnnihdhjphmohaa.VecRef2
