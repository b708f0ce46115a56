import Derived.Test.YtdmmcjefpbbceaaDoorLin3LineReads
namespace Go.Proofs.YtdmmcjefpbbceaaDoor.ELineReads
open Go Go.Proofs.YtdmmcjefpbbceaaDoor.AE Go.Proofs.YtdmmcjefpbbceaaDoor
set_option linter.unusedVariables false
theorem awake : R11 3000 () = some true := by kernel_rfl
theorem law (s : ByteArray) : R4 3001 s = some true := by
  rw [u4]
  unfold r4
  dsimp only
  rw [awake, Option.bind_some]
  simp only [Bool.not_true, cond_false]
  by_cases c : s.size ≤ 300
  · rw [decide_eq_false (show ¬ (s.size : Int) > 300 by omega), Parse_is 2987 s (by omega) (by omega), Option.bind_some, RParse_is 2979 s (by omega) (by omega), Option.bind_some]
    simp only [decide_true, beq_self_eq_true, cond_true, cond_false]
    rw [same_self 2999]
    rfl
  · rw [decide_eq_true (show (s.size : Int) > 300 by omega)]
    rfl
theorem law_run (a0 : ByteArray) (w0 : WF .str a0) : runHow E (evalF E 3000) 3000 s4 a0 h4 = some true := (law_R 3000 a0).trans (law a0)
end Go.Proofs.YtdmmcjefpbbceaaDoor.ELineReads
