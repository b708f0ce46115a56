import Derived.Test.YtanjfijhekhbfaaNamNamesSorts
namespace Go.Proofs.Ytanjfijhekhbfaa.ENamesSorts
open Go Go.Proofs.Ytanjfijhekhbfaa.AE Go.Proofs.Ytanjfijhekhbfaa Go.Proofs.Ytanjfijhekhbfaa.NameX
set_option linter.unusedVariables false
set_option linter.unusedSimpArgs false
theorem awake : R13 1300 () = some true := by kernel_rfl
theorem law (a : List (List Int)) (w0 : WF (.slice (.slice (.int .u8))) a) : R4 1301 a = some true := by
  rw [u4]
  unfold r4
  dsimp only
  rw [awake, Option.bind_some]
  simp only [Bool.not_true, cond_false]
  rw [few2_is 1299 (by omega), Option.bind_some]
  cases hf : (decide (a.length ≤ 40) && fewL 40 a) with
  | false => rfl
  | true =>
    have A := few_of hf (byts_wf w0)
    have hd := dsort_len a
    have an := A.n
    simp only [Bool.not_true, beq_self_eq_true, cond_true]
    rw [sort_is 1298 a (by omega) A.t A.b (by omega), Option.bind_some, refSort_is 1298 a (by omega) A.t A.b (by omega), Option.bind_some, stoks_is 1299 _ (by omega) (by omega)]
    rfl
theorem law_run (a0 : List (List Int)) (w0 : WF (.slice (.slice (.int .u8))) a0) : runHow E (evalF E 1300) 1300 s4 a0 h4 = some true :=
  (law_R 1300 a0).trans (law a0 w0)
end Go.Proofs.Ytanjfijhekhbfaa.ENamesSorts
