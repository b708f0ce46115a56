import Derived.Test.YtpcnidiealmgfaaEdi3EditMakes
namespace Go.Proofs.Ytpcnidiealmgfaa.EEditMakes
open Go Go.Proofs.Ytpcnidiealmgfaa.AE Go.Proofs.Ytpcnidiealmgfaa Go.Proofs.Ytpcnidiealmgfaa.NameX
set_option linter.unusedVariables false
set_option linter.unusedSimpArgs false
theorem awake : R10 1300 () = some true := by kernel_rfl
theorem law (a b : List Tok) (l : List Pr) (w0 : WF (.slice (.slice (.int .u8))) a) (w1 : WF (.slice (.slice (.int .u8))) b) : R4 1301 a b l = some true := by
  rw [u4]
  unfold r4
  dsimp only
  rw [awake, Option.bind_some]
  simp only [Bool.not_true, cond_false]
  rw [few24_is 1299 (by omega), Option.bind_some, few24_is 1299 (by omega)]
  cases hf : fewB a with
  | false => rfl
  | true =>
    obtain ⟨A, an⟩ := few24_of hf (byts_wf w0)
    simp only [Bool.not_true, beq_self_eq_true, cond_true, Option.bind_some]
    cases hg : fewB b with
    | false => rfl
    | true =>
      obtain ⟨B, bn⟩ := few24_of hg (byts_wf w1)
      simp only [Bool.not_true, beq_self_eq_true, cond_true]
      by_cases c : (l.length : Int) > 30
      · rw [decide_eq_true c, cond_true]
      · rw [decide_eq_false c, cond_false, make_is 1289 (by omega) a b A B l (by omega), Option.bind_some, rmake_is 1289 (by omega) a b A B l (by omega), Option.bind_some]
        simp only [decide_true, beq_self_eq_true, cond_true]
        have key : (makeS a b l).1.length ≤ 31 ∧ ∀ h ∈ (makeS a b l).1, h.2.1.length ≤ 30 ∧ h.2.2.length ≤ 30 := by
          unfold makeS
          cases goodP (twoS a b).1 (twoS a b).2.1 (-1) (-1) l with
          | false => exact ⟨Nat.zero_le _, fun h hh => by simp at hh⟩
          | true => exact ⟨by have := mkS_len a b l 0 0; simp only [cond_true]; omega, mkS_lim an bn l 0 0⟩
        rw [same24_is 1298 30 _ (by omega) (by omega) (by omega) (by omega) key.2]
        rfl
theorem law_run (a0 : List Tok) (w0 : WF (.slice (.slice (.int .u8))) a0) (a1 : List Tok) (w1 : WF (.slice (.slice (.int .u8))) a1) (a2 : List Pr) (w2 : WF PrT a2) : runHow E (evalF E 1300) 1300 s4 (a0, a1, a2) h4 = some true :=
  (law_R 1300 a0 a1 a2).trans (law a0 a1 a2 w0 w1)
end Go.Proofs.Ytpcnidiealmgfaa.EEditMakes
