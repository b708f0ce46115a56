/- How many words are worked out (HyyroSteps). -/
import Derived.Test.YtnnihdhjphmohaaPVx6
import Derived.Test.YtnnihdhjphmohaaVecRef2
import Derived.Test.YtnnihdhjphmohaaAwakeM
namespace Go.Proofs.Ytnnihdhjphmohaa.Pure
open Go.RowKit Go.Proofs.Ytnnihdhjphmohaa.PV Go.Proofs.YtnnihdhjphmohaaW.PrintWords Go.Proofs.YtnnihdhjphmohaaW.PrintLast Go.Proofs.Ytnnihdhjphmohaa.VecMath VecSpec
/-- How many words are worked out. -/
def stepsN (n m : Int) : Int := if 0 ≤ n ∧ n ≤ 1048576 ∧ 0 ≤ m ∧ m ≤ 1048576 then wrap64 (n * (wds m : Int)) else 0
theorem isn (n : Int) : hyyro_is.f n = some (decide (0 ≤ n ∧ n ≤ 1048576)) := by
  unfold hyyro_is.f
  by_cases h : n ≥ 0
  · rw [if_pos h]
    by_cases h2 : n ≤ 1048576
    · rw [decide_eq_true h2, decide_eq_true ⟨h, h2⟩]
    · rw [decide_eq_false h2, decide_eq_false (fun e => h2 e.2)]
  · rw [if_neg h, decide_eq_false (fun e => h e.1)]
theorem steps_is (n m : Int) : hyyro_Steps.f n m = some (stepsN n m) := by
  unfold hyyro_Steps.f stepsN
  rw [isn, Option.bind_some, isn]
  by_cases h : 0 ≤ n ∧ n ≤ 1048576
  · rw [decide_eq_true h, if_pos rfl, Option.bind_some]
    by_cases h2 : 0 ≤ m ∧ m ≤ 1048576
    · rw [decide_eq_true h2, if_pos rfl, VecSpec.Words_is, Option.bind_some, if_pos ⟨h.1, h.2, h2.1, h2.2⟩]
    · rw [decide_eq_false h2, if_neg (by decide), if_neg (fun e => h2 ⟨e.2.2.1, e.2.2.2⟩)]
  · rw [decide_eq_false h, if_neg (by decide), if_neg (fun e => h ⟨e.1, e.2.1⟩)]
theorem rsteps_is (n m : Int) : tattingref20_Steps.f n m = some (stepsN n m) := by
  unfold tattingref20_Steps.f stepsN
  by_cases h1 : n < 0
  · rw [if_pos h1, if_neg (fun e => by have := e.1; omega)]
  · rw [if_neg h1]
    by_cases h2 : m < 0
    · rw [if_pos h2, if_neg (fun e => by have := e.2.2.1; omega)]
    · rw [if_neg h2]
      by_cases h3 : n > 1048576
      · rw [if_pos h3, if_neg (fun e => by have := e.2.1; omega)]
      · rw [if_neg h3]
        by_cases h4 : m > 1048576
        · rw [if_pos h4, if_neg (fun e => by have := e.2.2.2; omega)]
        · rw [if_neg h4, VecRef2.Words_is, Option.bind_some, if_pos ⟨by omega, by omega, by omega, by omega⟩]


theorem HyyroSteps : tattinglaw20_HyyroSteps.Pure := by
  intro n m hn hm
  refine Ev.rounds ?_
  unfold tattinglaw20_HyyroSteps.f
  refine Ev.bind AwakeM.awake_is ?_
  simp only [if_true, steps_is, rsteps_is, Option.bind_some, beq_self_eq_true]
  exact Ev.now _
end Go.Proofs.Ytnnihdhjphmohaa.Pure
