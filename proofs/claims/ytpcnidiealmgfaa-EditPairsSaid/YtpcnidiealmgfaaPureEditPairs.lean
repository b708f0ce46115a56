import Derived.Test.YtpcnidiealmgfaaEdi2EditPairs
namespace Go.Proofs.Ytpcnidiealmgfaa.EEditPairs
open Go Go.Proofs.Ytpcnidiealmgfaa.AE Go.Proofs.Ytpcnidiealmgfaa Go.Proofs.Ytpcnidiealmgfaa.NameX
set_option linter.unusedVariables false
set_option linter.unusedSimpArgs false
theorem awake : R10 1300 () = some true := by kernel_rfl
theorem law (N : Int) (s : List Hk) (w1 : WF HkT s) : R6 1301 N s = some true := by
  rw [u6]
  unfold r6
  dsimp only
  rw [awake, Option.bind_some]
  simp only [Bool.not_true, cond_false]
  rw [small24_is 1298 (by omega), Option.bind_some]
  cases hf : (decide (s.length ≤ 12) && smB s) with
  | false => rfl
  | true =>
    have S := sml_of hf
    simp only [Bool.not_true, beq_self_eq_true, cond_true]
    have key : (N ≤ 200 ∨ 1048576 < N) → (Option.bind (R9 1300 N s) fun y7 => Option.bind (R20 1300 N s) fun y8 => bif decide (y7.2 = y8.2) == true then Option.bind (R12 1300 y7.1 y8.1) fun y10 => some y10 else some false) = some true := by
      intro hN
      have hlen := pairsS_len N hN s
      rw [pairs_is 1298 (by omega) N hN s S, Option.bind_some, rpairs_is 1298 (by omega) N hN s S (ats24 w1), Option.bind_some]
      simp only [decide_true, beq_self_eq_true, cond_true]
      rw [sprs_is 1299 _ (by omega) (by omega)]
      rfl
    by_cases c : N > 200
    · simp only [decide_eq_true c, beq_self_eq_true, cond_true]
      by_cases c2 : N ≤ 1048576
      · simp only [decide_eq_true c2, cond_true]
      · simp only [decide_eq_false c2, cond_false]
        exact key (.inr (by omega))
    · simp only [decide_eq_false c, show (false == true) = false from rfl, cond_false]
      exact key (.inl (by omega))
theorem law_run (a0 : Int) (w0 : WF (.int .i64) a0) (a1 : List Hk) (w1 : WF HkT a1) : runHow E (evalF E 1300) 1300 s6 (a0, a1) h6 = some true :=
  (law_R 1300 a0 a1).trans (law a0 a1 w1)
end Go.Proofs.Ytpcnidiealmgfaa.EEditPairs
