import Derived.Test.YtnnihdhjphmohaaPVx4
import Derived.Test.YtnnihdhjphmohaaVecMath
namespace Go.Proofs.Ytnnihdhjphmohaa.AwakeM
open Go.RowKit Go.Proofs.YtnnihdhjphmohaaW.PrintWords Go.Proofs.YtnnihdhjphmohaaW.PrintMore Go.Proofs.Ytnnihdhjphmohaa.VecMath Go.Proofs.Ytnnihdhjphmohaa.PV
theorem awake_is : Ev (fun k => tattinglaw20_awake.f k) true := Ev.of (k := 10) (fun k => tattinglaw20_awake.mono k) (by decide +kernel)
theorem ok_of {l : List Int} (h : ∀ x ∈ l, (Lit.int .u64 x).wf = true) : OK l := by
  intro x hx
  have := h x hx
  simp [Lit.wf, IntKind.min, IntKind.max, IntKind.signed, IntKind.bits] at this
  omega
end Go.Proofs.Ytnnihdhjphmohaa.AwakeM
