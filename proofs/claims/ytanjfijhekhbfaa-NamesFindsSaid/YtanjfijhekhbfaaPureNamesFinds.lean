import Derived.Test.YtanjfijhekhbfaaNamNamesFinds
namespace Go.Proofs.Ytanjfijhekhbfaa.ENamesFinds
open Go Go.Proofs.Ytanjfijhekhbfaa.AE Go.Proofs.Ytanjfijhekhbfaa Go.Proofs.Ytanjfijhekhbfaa.NameX
set_option linter.unusedVariables false
set_option linter.unusedSimpArgs false
theorem awake : R13 1300 () = some true := by kernel_rfl
theorem law (a b : List (List Int)) (t : List Int) (w0 : WF (.slice (.slice (.int .u8))) a) (w1 : WF (.slice (.slice (.int .u8))) b) (w2 : WF (.slice (.int .u8)) t) : R5 1301 a b t = some true := by
  rw [u5]
  unfold r5
  dsimp only
  rw [awake, Option.bind_some]
  simp only [Bool.not_true, cond_false]
  rw [few2_is 1299 (by omega), Option.bind_some]
  cases hf : (decide (a.length ≤ 40) && fewL 40 a) with
  | false => rfl
  | true =>
    have A := few_of hf (byts_wf w0)
    simp only [Bool.not_true, beq_self_eq_true, cond_true]
    rw [few2_is 1299 (by omega), Option.bind_some]
    cases hg : (decide (b.length ≤ 40) && fewL 40 b) with
    | false => rfl
    | true =>
      have B := few_of hg (byts_wf w1)
      have T := byt_wf w2
      have an := A.n
      have bn := B.n
      simp only [Bool.not_true, beq_self_eq_true, cond_true]
      by_cases c : t.length ≤ 40
      · rw [decide_eq_false (show ¬ (t.length : Int) > 40 by omega), cond_false]
        have hd := dsort_len a
        have hy := byts_sort A.b
        have hs := dsort_ss a
        rw [refSort_is 1298 a (by omega) A.t A.b (by omega), Option.bind_some]
        rw [find_is 1296 _ t hs (by omega) (by omega) hy T, Option.bind_some]
        rw [rfind_is 1298 _ t (by omega) (by omega) hy T, Option.bind_some]
        rw [ids_is 1295 _ b hs (by omega) (by omega) hy B.b (by omega), Option.bind_some]
        rw [rids_is 1297 _ b (by omega) (by omega) hy B.b (by omega), Option.bind_some]
        rw [ids_is 1295 _ a hs (by omega) (by omega) hy A.b (by omega), Option.bind_some]
        obtain ⟨x, hx⟩ := idsF_some (d := dsort a) a (fun t ht => (dsort_mem _ _).2 ht)
        have hxl := idsF_len hx
        have hl : (idsR (dsort a) b).1.length ≤ 40 := by
          rw [idsR]
          cases hb : idsF (dsort a) b with
          | none => simp
          | some r => have := idsF_len hb; simp only; omega
        have e3 : idsR (dsort a) a = (x, true) := by rw [idsR, hx]
        simp only [decide_true, beq_self_eq_true, cond_true]
        rw [sints_is 1299 _ (by omega) (by omega), Option.bind_some, e3]
        simp only [beq_self_eq_true, cond_true, hxl, decide_true]
      · rw [decide_eq_true (show (t.length : Int) > 40 by omega)]
        rfl
theorem law_run (a0 : List (List Int)) (w0 : WF (.slice (.slice (.int .u8))) a0) (a1 : List (List Int)) (w1 : WF (.slice (.slice (.int .u8))) a1) (a2 : List Int) (w2 : WF (.slice (.int .u8)) a2) : runHow E (evalF E 1300) 1300 s5 (a0, a1, a2) h5 = some true :=
  (law_R 1300 a0 a1 a2).trans (law a0 a1 a2 w0 w1 w2)
end Go.Proofs.Ytanjfijhekhbfaa.ENamesFinds
