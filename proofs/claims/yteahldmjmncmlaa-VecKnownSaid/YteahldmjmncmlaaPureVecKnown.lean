/- What chapter 5 says of widths at their ends and of bits outside holds of package vec (VecKnown). -/
import Derived.Test.YteahldmjmncmlaaPVx25
namespace Go.Proofs.Yteahldmjmncmlaa.Pure
open Go.RowKit Go.Proofs.Yteahldmjmncmlaa.PV
theorem VecKnown : tattinglaw5_VecKnown.Pure := ⟨10, by decide +kernel⟩
end Go.Proofs.Yteahldmjmncmlaa.Pure
