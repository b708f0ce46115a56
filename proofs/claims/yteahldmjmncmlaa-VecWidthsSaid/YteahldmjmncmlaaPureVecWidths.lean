/- For every list of words and every width that counts, Words, Ones, Fit, Not and Count of package vec tell what the reference tells (VecWidths). -/
import Derived.Test.YteahldmjmncmlaaPVx23
import Derived.Test.YteahldmjmncmlaaVecSpec2
import Derived.Test.YteahldmjmncmlaaVecRef2
import Derived.Test.YteahldmjmncmlaaVecAwake
namespace Go.Proofs.Yteahldmjmncmlaa.Pure
open Go.RowKit Go.Proofs.Yteahldmjmncmlaa.PV Go.Proofs.YteahldmjmncmlaaW.PrintWords Go.Proofs.YteahldmjmncmlaaW.PrintLast Go.Proofs.Yteahldmjmncmlaa.VecMath

theorem VecWidths : tattinglaw5_VecWidths.Pure := by
  intro x n hx1 hx2 hx3 hn1
  have hx := VecAwake.ok_of hx3
  clear hx1 hx2 hx3 hn1
  refine Ev.rounds ?_
  unfold tattinglaw5_VecWidths.f
  refine Ev.bind VecAwake.awake_is ?_
  simp only [if_true]
  have many : Ev (fun k => tattinglaw5_VecWidths.j0 k x n true) true := by
    refine Ev.step (fun k => ?_) (Ev.now _)
    simp only [tattinglaw5_VecWidths.j0]
    rfl
  have few : Ev (fun k => tattinglaw5_VecWidths.j0 k x n false) true := by
    have hlen : ∀ N, (lay N (VecSpec.wds n)).length < 9223372036854775807 := fun N => by
      rw [lay_length]
      exact Nat.lt_of_le_of_lt (VecSpec.wds_le n) (by decide)
    refine Ev.step (f := fun k => (vec_Ones.f k n).bind fun t319 => ((tattingref5_Ones.f k n).bind fun t322 => ((tattingref5_Same.f k t319 t322).bind fun t325 => (if t325 = true then ((vec_Fit.f k x n).bind fun t326 => ((tattingref5_Fit.f k x n).bind fun t329 => ((tattingref5_Same.f k t326 t329).bind fun t332 => (if t332 = true then ((vec_Not.f k x n).bind fun t333 => ((tattingref5_Not.f k x n).bind fun t336 => ((tattingref5_Same.f k t333 t336).bind fun t339 => (if t339 = true then ((vec_Count.f k x n).bind fun t340 => ((tattingref5_Count.f k x n).bind fun t341 => (some (t340 == t341)))) else (some false))))) else (some false))))) else (some false))))) (fun k => ?_) ?_
    · simp only [tattinglaw5_VecWidths.j0]
      rw [VecSpec.Words_is, VecRef2.Words_is, Option.bind_some, Option.bind_some, if_pos rfl]
      rfl
    refine Ev.bind (VecSpec.Ones_is n) ?_
    refine Ev.bind (VecRef2.Ones_is n) ?_
    refine Ev.bind (VecRef.Same_eq _ (hlen _)) ?_
    simp only [if_true]
    refine Ev.bind (VecSpec.Fit_is x n hx) ?_
    refine Ev.bind (VecRef2.Fit_is x n hx) ?_
    refine Ev.bind (VecRef.Same_eq _ (hlen _)) ?_
    simp only [if_true]
    refine Ev.bind (VecSpec.Not_is x n hx) ?_
    refine Ev.bind (VecRef2.Not_is x n hx) ?_
    refine Ev.bind (VecRef.Same_eq _ (hlen _)) ?_
    simp only [if_true]
    refine Ev.bind (VecSpec2.Count_is x n hx) ?_
    refine Ev.bind (VecRef2.Count_is x n hx) ?_
    rw [beq_self_eq_true]
    exact Ev.now _
  by_cases h1 : (x.length : Int) > 8
  · simp only [if_pos h1]
    exact many
  · simp only [if_neg h1]
    by_cases h2 : n > 700
    · simp only [if_pos h2]
      cases decide (n < 1048576)
      · exact few
      · exact many
    · simp only [if_neg h2]
      exact few
end Go.Proofs.Yteahldmjmncmlaa.Pure
