import Derived.Test.YtahfckadomemiaaPVx1
import Derived.Test.YtahfckadomemiaaPVx2
import Derived.Test.YtahfckadomemiaaVecMath
import Derived.Test.YtahfckadomemiaaVecSpecNot
namespace Go.Proofs.Ytahfckadomemiaa.VecSpec
open Go.RowKit Go.Proofs.YtahfckadomemiaaW.PrintWords Go.Proofs.YtahfckadomemiaaW.PrintMore Go.Proofs.Ytahfckadomemiaa.XBits Go.Proofs.Ytahfckadomemiaa.VecMath Go.Proofs.Ytahfckadomemiaa.PV

theorem OK_nil : OK [] := fun x h => by simp at h
theorem Ones_is (n : Int) : Ev (fun k => vec_Ones.f k n) (lay (2 ^ wid n - 1) (wds n)) := by
  have h := Not_is [] n OK_nil
  have e : inv (val []) (wid n) = 2 ^ wid n - 1 := by simp [inv, val]
  rw [e] at h
  unfold vec_Ones.f
  exact Ev.bind h (Ev.now _)
end Go.Proofs.Ytahfckadomemiaa.VecSpec
