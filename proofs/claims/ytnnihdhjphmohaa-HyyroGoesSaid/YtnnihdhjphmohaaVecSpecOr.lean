import Derived.Test.YtnnihdhjphmohaaPVx1
import Derived.Test.YtnnihdhjphmohaaVecMath
import Derived.Test.YtnnihdhjphmohaaVecSpecAt
namespace Go.Proofs.Ytnnihdhjphmohaa.VecSpec
open Go.RowKit Go.Proofs.YtnnihdhjphmohaaW.PrintWords Go.Proofs.YtnnihdhjphmohaaW.PrintMore Go.Proofs.Ytnnihdhjphmohaa.XBits Go.Proofs.Ytnnihdhjphmohaa.VecMath Go.Proofs.Ytnnihdhjphmohaa.PV

theorem Or_is (x y : List Int) (hx : OK x) (hy : OK y) (hl : mlen x y ≤ 35184372088832) : Ev (fun k => vec_Or.f k x y) (lay (val x ||| val y) (mlen x y)) := by
  unfold vec_Or.f
  rw [mx_len]
  have h0 : (0 : Int) ≤ (mlen x y : Int) := Int.natCast_nonneg _
  simp only [Int.toNat_natCast, Option.bind_some, if_pos h0, if_pos hl, List.length_replicate]
  refine fillE (fun k z (_ : Unit) i => vec_Or.l0 k x y z (mlen x y : Int) i) (mlen x y) (fun _ => ()) (fun i => (wd (val x ||| val y) i : Int)) _ ?_ ?_ _ (by simp)
  · intro z i hi hz h
    refine Ev.step (fun k => ?_) h
    simp only [vec_Or.l0]
    rw [if_pos (by omega), at_is x hx, at_is y hy]
    simp only [Option.bind_some]
    rw [if_pos (by omega), if_pos (by omega), wrap64_id (by omega) (by omega), bor (wd_lt _ _) (wd_lt _ _), Int.toNat_natCast, ← wd_or]
  · refine Ev.step (fun k => ?_) (Ev.now _)
    simp only [vec_Or.l0]
    rw [if_neg (by omega)]
    rfl

end Go.Proofs.Ytnnihdhjphmohaa.VecSpec
