/- For every two lists of words, And and Or of package vec tell what the reference tells, bit by bit (VecBoth). -/
import Derived.Test.YteahldmjmncmlaaPVx15
import Derived.Test.YteahldmjmncmlaaVecSpec
import Derived.Test.YteahldmjmncmlaaVecRef
import Derived.Test.YteahldmjmncmlaaVecAwake
namespace Go.Proofs.Yteahldmjmncmlaa.Pure
open Go.RowKit Go.Proofs.Yteahldmjmncmlaa.PV Go.Proofs.YteahldmjmncmlaaW.PrintWords Go.Proofs.YteahldmjmncmlaaW.PrintLast Go.Proofs.Yteahldmjmncmlaa.VecMath

theorem VecBoth : tattinglaw5_VecBoth.Pure := by
  intro x y hx1 hx2 hx3 hy1 hy2 hy3
  have hx := VecAwake.ok_of hx3
  have hy := VecAwake.ok_of hy3
  clear hx1 hx2 hx3 hy1 hy2 hy3
  refine Ev.rounds ?_
  unfold tattinglaw5_VecBoth.f
  refine Ev.bind VecAwake.awake_is ?_
  simp only [if_true]
  have many : Ev (fun k => tattinglaw5_VecBoth.j0 k x y true) true := by
    refine Ev.step (fun k => ?_) (Ev.now _)
    simp only [tattinglaw5_VecBoth.j0]
    rfl
  by_cases h1 : (x.length : Int) > 8
  · simp only [if_pos h1]
    exact many
  · simp only [if_neg h1]
    by_cases h2 : (y.length : Int) > 8
    · simp only [decide_eq_true h2]
      exact many
    · simp only [decide_eq_false h2]
      have hl : VecSpec.mlen x y ≤ 8 := by unfold VecSpec.mlen; omega
      have hl' : VecRef.mlen' x y ≤ 8 := hl
      refine Ev.step (f := fun k => (vec_And.f k x y).bind fun t189 => ((tattingref5_And.f k x y).bind fun t192 => ((tattingref5_Same.f k t189 t192).bind fun t195 => (if t195 = true then ((vec_Or.f k x y).bind fun t196 => ((tattingref5_Or.f k x y).bind fun t199 => ((tattingref5_Same.f k t196 t199).bind fun t202 => (some t202)))) else (some false))))) (fun k => ?_) ?_
      · simp only [tattinglaw5_VecBoth.j0]
        rfl
      refine Ev.bind (VecSpec.And_is x y hx hy (by omega)) ?_
      refine Ev.bind (VecRef.And_is x y hx hy (by omega) (by omega)) ?_
      refine Ev.bind (VecRef.Same_eq _ (by rw [lay_length]; omega)) ?_
      simp only [if_true]
      refine Ev.bind (VecSpec.Or_is x y hx hy (by omega)) ?_
      refine Ev.bind (VecRef.Or_is x y hx hy (by omega) (by omega)) ?_
      refine Ev.bind (VecRef.Same_eq _ (by rw [lay_length]; omega)) ?_
      exact Ev.now _
end Go.Proofs.Yteahldmjmncmlaa.Pure
