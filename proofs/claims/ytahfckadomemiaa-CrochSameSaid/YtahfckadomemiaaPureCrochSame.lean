/- The next row of bits is that of chapter 20, and so are the steps (CrochSame). -/
import Derived.Test.YtahfckadomemiaaPVx6
import Derived.Test.YtahfckadomemiaaRowCroch
import Derived.Test.YtahfckadomemiaaRowHyyro
import Derived.Test.YtahfckadomemiaaVecRef2
import Derived.Test.YtahfckadomemiaaAwakeM
namespace Go.Proofs.Ytahfckadomemiaa.Pure
open Go.RowKit Go.Proofs.Ytahfckadomemiaa.PV Go.Proofs.YtahfckadomemiaaW.PrintWords Go.Proofs.YtahfckadomemiaaW.PrintLast Go.Proofs.Ytahfckadomemiaa.VecMath VecSpec RowSpec
/-- How many words are worked out. -/
def stepsN (n m : Int) : Int := if 0 ≤ n ∧ n ≤ 1048576 ∧ 0 ≤ m ∧ m ≤ 1048576 then wrap64 (n * (wds m : Int)) else 0
theorem isn (n : Int) : croch_is.f n = some (decide (0 ≤ n ∧ n ≤ 1048576)) := by
  unfold croch_is.f
  by_cases h : n ≥ 0
  · rw [if_pos h]
    by_cases h2 : n ≤ 1048576
    · rw [decide_eq_true h2, decide_eq_true ⟨h, h2⟩]
    · rw [decide_eq_false h2, decide_eq_false (fun e => h2 e.2)]
  · rw [if_neg h, decide_eq_false (fun e => h e.1)]
theorem steps_is (n m : Int) : croch_Steps.f n m = some (stepsN n m) := by
  unfold croch_Steps.f stepsN
  rw [isn, Option.bind_some, isn]
  by_cases h : 0 ≤ n ∧ n ≤ 1048576
  · rw [decide_eq_true h, if_pos rfl, Option.bind_some]
    by_cases h2 : 0 ≤ m ∧ m ≤ 1048576
    · rw [decide_eq_true h2, if_pos rfl, VecSpec.Words_is, Option.bind_some, if_pos ⟨h.1, h.2, h2.1, h2.2⟩]
    · rw [decide_eq_false h2, if_neg (by decide), if_neg (fun e => h2 ⟨e.2.2.1, e.2.2.2⟩)]
  · rw [decide_eq_false h, if_neg (by decide), if_neg (fun e => h ⟨e.1, e.2.1⟩)]
theorem rsteps_is (n m : Int) : tattingref20_Steps.f n m = some (stepsN n m) := by
  unfold tattingref20_Steps.f stepsN
  by_cases h1 : n < 0
  · rw [if_pos h1, if_neg (fun e => by have := e.1; omega)]
  · rw [if_neg h1]
    by_cases h2 : m < 0
    · rw [if_pos h2, if_neg (fun e => by have := e.2.2.1; omega)]
    · rw [if_neg h2]
      by_cases h3 : n > 1048576
      · rw [if_pos h3, if_neg (fun e => by have := e.2.1; omega)]
      · rw [if_neg h3]
        by_cases h4 : m > 1048576
        · rw [if_pos h4, if_neg (fun e => by have := e.2.2.2; omega)]
        · rw [if_neg h4, VecRef2.Words_is, Option.bind_some, if_pos ⟨by omega, by omega, by omega, by omega⟩]

theorem CrochSame : tattinglaw21_CrochSame.Pure := by
  intro x y m n hx1 hx2 hx3 hy1 hy2 hy3 hm hn
  have hx := AwakeM.ok_of hx3
  have hy := AwakeM.ok_of hy3
  clear hx1 hx2 hx3 hy1 hy2 hy3 hm hn
  refine Ev.rounds ?_
  unfold tattinglaw21_CrochSame.f
  refine Ev.bind AwakeM.awake_is ?_
  simp only [if_true]
  have many : Ev (fun k => tattinglaw21_CrochSame.j0 k x y m n true) true := by
    refine Ev.step (fun k => ?_) (Ev.now _)
    simp only [tattinglaw21_CrochSame.j0]
    rfl
  by_cases h1 : (x.length : Int) > 6
  · simp only [if_pos h1]
    exact many
  · simp only [if_neg h1]
    by_cases h2 : (y.length : Int) > 6
    · simp only [if_pos h2]
      exact many
    · simp only [if_neg h2]
      by_cases h3 : m > 400
      · simp only [decide_eq_true h3]
        exact many
      · simp only [decide_eq_false h3]
        refine Ev.step (f := fun k => (croch_Row.f k x y m).bind fun t499 => ((hyyro_Row.f k x y m).bind fun t502 => ((tattingref5_Same.f k t499 t502).bind fun t505 => (if t505 = true then ((croch_Steps.f n m).bind fun t506 => ((tattingref20_Steps.f n m).bind fun t507 => (some (t506 == t507)))) else (some false))))) (fun k => ?_) ?_
        · simp only [tattinglaw21_CrochSame.j0]
          rfl
        refine Ev.bind (croch_is x y m hx hy) ?_
        refine Ev.bind (hyyro_is x y m hx hy) ?_
        refine Ev.bind (VecRef.Same_eq _ (by rw [lay_length]; have := wds_le m; omega)) ?_
        simp only [if_true, steps_is, rsteps_is, Option.bind_some, beq_self_eq_true]
        exact Ev.now _
end Go.Proofs.Ytahfckadomemiaa.Pure
