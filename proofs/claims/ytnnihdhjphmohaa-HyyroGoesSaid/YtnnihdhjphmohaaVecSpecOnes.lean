import Derived.Test.YtnnihdhjphmohaaPVx2
import Derived.Test.YtnnihdhjphmohaaVecMath
import Derived.Test.YtnnihdhjphmohaaVecSpecNot
namespace Go.Proofs.Ytnnihdhjphmohaa.VecSpec
open Go.RowKit Go.Proofs.YtnnihdhjphmohaaW.PrintWords Go.Proofs.YtnnihdhjphmohaaW.PrintMore Go.Proofs.Ytnnihdhjphmohaa.XBits Go.Proofs.Ytnnihdhjphmohaa.VecMath Go.Proofs.Ytnnihdhjphmohaa.PV

theorem OK_nil : OK [] := fun x h => by simp at h
theorem Ones_is (n : Int) : Ev (fun k => vec_Ones.f k n) (lay (2 ^ wid n - 1) (wds n)) := by
  have h := Not_is [] n OK_nil
  have e : inv (val []) (wid n) = 2 ^ wid n - 1 := by simp [inv, val]
  rw [e] at h
  unfold vec_Ones.f
  exact Ev.bind h (Ev.now _)
end Go.Proofs.Ytnnihdhjphmohaa.VecSpec
