import Derived.Test.YtbbbcdfagmcfgaaWP
import Derived.Test.YtbbbcdfagmcfgaaVecMath
import Derived.Test.YtbbbcdfagmcfgaaVecSpecAt
import Derived.Test.YtbbbcdfagmcfgaaVecSpecWid
namespace Go.Proofs.Ytbbbcdfagmcfgaa.VecSpec
open Go.RowKit Go.Proofs.YtbbbcdfagmcfgaaW.PrintWords Go.Proofs.YtbbbcdfagmcfgaaW.PrintMore Go.Proofs.Ytbbbcdfagmcfgaa.XBits Go.Proofs.Ytbbbcdfagmcfgaa.VecMath Go.Proofs.Ytbbbcdfagmcfgaa.PV

theorem Fit_is (x : List Int) (n : Int) (hx : OK x) : Ev (fun k => vec_Fit.f k x n) (lay (val x % 2 ^ wid n) (wds n)) := by
  have h2 := wds_le n
  unfold vec_Fit.f
  rw [Words_is]
  have h0 : (0 : Int) ≤ (wds n : Int) := Int.natCast_nonneg _
  have h1 : wds n ≤ 35184372088832 := by omega
  simp only [Option.bind_some, Int.toNat_natCast, if_pos h0, if_pos h1, List.length_replicate]
  refine fillE (fun k z (_ : Unit) i => vec_Fit.l0 k x n z (wds n : Int) i) (wds n) (fun _ => ()) (fun i => (wd (val x % 2 ^ wid n) i : Int)) _ ?_ ?_ _ (by simp)
  · intro z i hi hz h
    refine Ev.step (fun k => ?_) h
    simp only [vec_Fit.l0]
    rw [if_pos (by omega), at_is x hx, mask_is n i hi]
    simp only [Option.bind_some]
    rw [if_pos (by omega), if_pos (by omega), wrap64_id (by omega) (by omega), band (wd_lt _ _) (wd_lt _ _), Int.toNat_natCast, ← wd_and, Nat.and_two_pow_sub_one_eq_mod]
  · refine Ev.step (fun k => ?_) (Ev.now _)
    simp only [vec_Fit.l0]
    rw [if_neg (by omega)]
    rfl
end Go.Proofs.Ytbbbcdfagmcfgaa.VecSpec
