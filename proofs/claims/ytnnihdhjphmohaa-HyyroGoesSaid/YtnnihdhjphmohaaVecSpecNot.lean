import Derived.Test.YtnnihdhjphmohaaPVx1
import Derived.Test.YtnnihdhjphmohaaPVx2
import Derived.Test.YtnnihdhjphmohaaVecMath
import Derived.Test.YtnnihdhjphmohaaVecSpecAt
import Derived.Test.YtnnihdhjphmohaaVecSpecWid
namespace Go.Proofs.Ytnnihdhjphmohaa.VecSpec
open Go.RowKit Go.Proofs.YtnnihdhjphmohaaW.PrintWords Go.Proofs.YtnnihdhjphmohaaW.PrintMore Go.Proofs.Ytnnihdhjphmohaa.XBits Go.Proofs.Ytnnihdhjphmohaa.VecMath Go.Proofs.Ytnnihdhjphmohaa.PV

/-- The other bits below a width. -/
def inv (X w : Nat) : Nat := 2 ^ w - (X % 2 ^ w + 1)
theorem inv_testBit (X w i : Nat) : (inv X w).testBit i = (decide (i < w) && !X.testBit i) := by
  unfold inv
  rw [Nat.testBit_two_pow_sub_succ (Nat.mod_lt _ (Nat.two_pow_pos _)), Nat.testBit_mod_two_pow]
  by_cases h : i < w <;> simp [h]
theorem Not_is (x : List Int) (n : Int) (hx : OK x) : Ev (fun k => vec_Not.f k x n) (lay (inv (val x) (wid n)) (wds n)) := by
  have h2 := wds_le n
  unfold vec_Not.f
  rw [Words_is]
  have h0 : (0 : Int) ≤ (wds n : Int) := Int.natCast_nonneg _
  have h1 : wds n ≤ 35184372088832 := by omega
  simp only [Option.bind_some, Int.toNat_natCast, if_pos h0, if_pos h1, List.length_replicate]
  refine fillE (fun k z (_ : Unit) i => vec_Not.l0 k x n z (wds n : Int) i) (wds n) (fun _ => ()) (fun i => (wd (inv (val x) (wid n)) i : Int)) _ ?_ ?_ _ (by simp)
  · intro z i hi hz h
    refine Ev.step (fun k => ?_) h
    have hw := wd_lt (val x) i
    simp only [vec_Not.l0]
    rw [if_pos (by omega), at_is x hx, mask_is n i hi]
    simp only [Option.bind_some]
    rw [if_pos (by omega), if_pos (by omega), wrap64_id (by omega) (by omega), bnot hw, band (by omega) (wd_lt _ _), Int.toNat_natCast]
    congr 3
    apply Nat.eq_of_testBit_eq
    intro j
    rw [Nat.testBit_and, show 2 ^ 64 - 1 - wd (val x) i = 2 ^ 64 - (wd (val x) i + 1) by omega, Nat.testBit_two_pow_sub_succ hw, wd_testBit, wd_testBit, wd_testBit, inv_testBit, Nat.testBit_two_pow_sub_one]
    by_cases hj : j < 64 <;> by_cases hi2 : 64 * i + j < wid n <;> simp [hj, hi2]
  · refine Ev.step (fun k => ?_) (Ev.now _)
    simp only [vec_Not.l0]
    rw [if_neg (by omega)]
    rfl
end Go.Proofs.Ytnnihdhjphmohaa.VecSpec
