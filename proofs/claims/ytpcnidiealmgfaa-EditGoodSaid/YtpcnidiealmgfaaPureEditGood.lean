import Derived.Test.YtpcnidiealmgfaaEdiEditGood
namespace Go.Proofs.Ytpcnidiealmgfaa.EEditGood
open Go Go.Proofs.Ytpcnidiealmgfaa.AE Go.Proofs.Ytpcnidiealmgfaa Go.Proofs.Ytpcnidiealmgfaa.NameX
set_option linter.unusedVariables false
set_option linter.unusedSimpArgs false
theorem awake : R10 1300 () = some true := by kernel_rfl
theorem law (s : List Hk) (w0 : WF HkT s) : R5 1301 s = some true := by
  rw [u5]
  unfold r5
  dsimp only
  rw [awake, Option.bind_some]
  simp only [Bool.not_true, cond_false]
  rw [small24_is 1298 (by omega), Option.bind_some]
  cases hf : (decide (s.length ≤ 12) && smB s) with
  | false => rfl
  | true =>
    have S := sml_of hf
    have sn := S.n
    obtain ⟨d1, d2⟩ := del_le s S.l
    simp only [Bool.not_true, cond_false]
    rw [count_is 1299 s (by omega) (by omega) (by omega) (by omega), Option.bind_some, rcount_is 1299 s (by omega) (by omega) (by omega) (by omega), Option.bind_some,
      good_is 1298 30 s (by omega) (by omega) (by omega) (by omega) S.l, Option.bind_some, rgood_is 1299 30 s (by omega) (by omega) (by omega) (by omega) S.l (ats24 w0), Option.bind_some]
    simp only [beq_self_eq_true, cond_true, decide_true]
theorem law_run (a0 : List Hk) (w0 : WF HkT a0) : runHow E (evalF E 1300) 1300 s5 a0 h5 = some true :=
  (law_R 1300 a0).trans (law a0 w0)
end Go.Proofs.Ytpcnidiealmgfaa.EEditGood
