import Derived.Test.YtanjfijhekhbfaaNamNamesTwo
namespace Go.Proofs.Ytanjfijhekhbfaa.ENamesTwo
open Go Go.Proofs.Ytanjfijhekhbfaa.AE Go.Proofs.Ytanjfijhekhbfaa Go.Proofs.Ytanjfijhekhbfaa.NameX
set_option linter.unusedVariables false
set_option linter.unusedSimpArgs false
theorem awake : R13 1300 () = some true := by kernel_rfl
theorem law (a b : List (List Int)) (w0 : WF (.slice (.slice (.int .u8))) a) (w1 : WF (.slice (.slice (.int .u8))) b) : R6 1301 a b = some true := by
  rw [u6]
  unfold r6
  dsimp only
  rw [awake, Option.bind_some]
  simp only [Bool.not_true, cond_false]
  rw [few2_is 1299 (by omega), Option.bind_some]
  cases hf : (decide (a.length ≤ 40) && fewL 40 a) with
  | false => rfl
  | true =>
    have A := few_of hf (byts_wf w0)
    simp only [Bool.not_true, beq_self_eq_true, cond_true]
    rw [few2_is 1299 (by omega), Option.bind_some]
    cases hg : (decide (b.length ≤ 40) && fewL 40 b) with
    | false => rfl
    | true =>
      have B := few_of hg (byts_wf w1)
      have hl : (a ++ b).length ≤ 80 := by rw [List.length_append]; have := A.n; have := B.n; omega
      have hd := dsort_len (a ++ b)
      obtain ⟨x, hx⟩ := idsF_some (d := dsort (a ++ b)) a (fun t ht => (dsort_mem _ _).2 (List.mem_append.2 (.inl ht)))
      obtain ⟨y, hy⟩ := idsF_some (d := dsort (a ++ b)) b (fun t ht => (dsort_mem _ _).2 (List.mem_append.2 (.inr ht)))
      have hxl := idsF_len hx
      have hyl := idsF_len hy
      have an := A.n
      have bn := B.n
      have e2 : twoS a b = (x, y, ((dsort (a ++ b)).length : Int)) := by rw [twoS, idsR, idsR, hx, hy]
      simp only [Bool.not_true, cond_false]
      rw [two_is 1290 (by omega) a b A B, Option.bind_some, rtwo_is 1290 (by omega) a b A B, Option.bind_some, e2]
      simp only [decide_true, beq_self_eq_true, cond_true]
      rw [sints_is 1299 x (by omega) (by omega), Option.bind_some]
      simp only [beq_self_eq_true, cond_true]
      rw [sints_is 1299 y (by omega) (by omega)]
      rfl
theorem law_run (a0 : List (List Int)) (w0 : WF (.slice (.slice (.int .u8))) a0) (a1 : List (List Int)) (w1 : WF (.slice (.slice (.int .u8))) a1) : runHow E (evalF E 1300) 1300 s6 (a0, a1) h6 = some true :=
  (law_R 1300 a0 a1).trans (law a0 a1 w0 w1)
end Go.Proofs.Ytanjfijhekhbfaa.ENamesTwo
