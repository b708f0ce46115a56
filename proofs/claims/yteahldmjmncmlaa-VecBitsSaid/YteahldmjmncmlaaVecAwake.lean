import Derived.Test.YteahldmjmncmlaaPVx4
import Derived.Test.YteahldmjmncmlaaVecMath
namespace Go.Proofs.Yteahldmjmncmlaa.VecAwake
open Go.RowKit Go.Proofs.YteahldmjmncmlaaW.PrintWords Go.Proofs.YteahldmjmncmlaaW.PrintMore Go.Proofs.Yteahldmjmncmlaa.VecMath Go.Proofs.Yteahldmjmncmlaa.PV
theorem awake_is : Ev (fun k => tattinglaw5_awake.f k) true := Ev.of (k := 10) (fun k => tattinglaw5_awake.mono k) (by decide +kernel)
theorem ok_of {l : List Int} (h : ∀ x ∈ l, (Lit.int .u64 x).wf = true) : OK l := by
  intro x hx
  have := h x hx
  simp [Lit.wf, IntKind.min, IntKind.max, IntKind.signed, IntKind.bits] at this
  omega
theorem big_no {n : Nat} (h : ¬ (n : Int) > 8) : n ≤ 8 := by omega
end Go.Proofs.Yteahldmjmncmlaa.VecAwake
