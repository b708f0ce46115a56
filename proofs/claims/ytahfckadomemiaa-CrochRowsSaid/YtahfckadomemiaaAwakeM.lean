import Derived.Test.YtahfckadomemiaaPVx4
import Derived.Test.YtahfckadomemiaaVecMath
namespace Go.Proofs.Ytahfckadomemiaa.AwakeM
open Go.RowKit Go.Proofs.YtahfckadomemiaaW.PrintWords Go.Proofs.YtahfckadomemiaaW.PrintMore Go.Proofs.Ytahfckadomemiaa.VecMath Go.Proofs.Ytahfckadomemiaa.PV
theorem awake_is : Ev (fun k => tattinglaw21_awake.f k) true := Ev.of (k := 10) (fun k => tattinglaw21_awake.mono k) (by decide +kernel)
theorem ok_of {l : List Int} (h : ∀ x ∈ l, (Lit.int .u64 x).wf = true) : OK l := by
  intro x hx
  have := h x hx
  simp [Lit.wf, IntKind.min, IntKind.max, IntKind.signed, IntKind.bits] at this
  omega
end Go.Proofs.Ytahfckadomemiaa.AwakeM
