import Derived.Test.YtdmmcjefpbbceaaDoorLin7LineWrites
namespace Go.Proofs.YtdmmcjefpbbceaaDoor.ELineWrites
open Go Go.Proofs.YtdmmcjefpbbceaaDoor.AE Go.Proofs.YtdmmcjefpbbceaaDoor
set_option linter.unusedVariables false
abbrev CT : Ty := .pair (.int .i64) (.pair (.int .i64) (.pair (.int .i64) (.pair (.int .i64) (.pair (.int .i64) (.pair (.int .i64) (.pair (.slice (.int .u8)) (.one (.slice (.int .u8)))))))))
theorem in_of (c : Cmd) (w : WF CT c) (h1 : c.2.2.2.2.2.2.1.length ≤ 100) (h2 : c.2.2.2.2.2.2.2.length ≤ 100) : InC c := by
  obtain ⟨_, _, _, wt, wk, ww, wa, wb⟩ := w
  exact ⟨⟨fun x hx => wf_u8 (wa.2 x hx), fun x hx => wf_u8 (wb.2 x hx)⟩, by omega, by omega, wf_i64 wt, wf_i64 wk, wf_i64 ww⟩
theorem awake : R11 3000 () = some true := by kernel_rfl
theorem law (c : Cmd) (w : WF CT c) : R5 3001 c = some true := by
  rw [u5]
  unfold r5
  dsimp only
  rw [awake, Option.bind_some]
  simp only [Bool.not_true, cond_false]
  by_cases h1 : c.2.2.2.2.2.2.1.length ≤ 100
  · rw [decide_eq_false (show ¬ (c.2.2.2.2.2.2.1.length : Int) > 100 by omega)]
    simp only [beq_self_eq_true, cond_true]
    by_cases h2 : c.2.2.2.2.2.2.2.length ≤ 100
    · rw [decide_eq_false (show ¬ (c.2.2.2.2.2.2.2.length : Int) > 100 by omega)]
      simp only [cond_false]
      have hin := in_of c w h1 h2
      rw [Text_is 799 c hin, Option.bind_some, RText_is 699 c hin (wf_i64 w.1), Option.bind_some, text_eq]
      have e : ∀ x : ByteArray, strEq x x = true := fun x => by unfold strEq; simp
      simp only [e, decide_true, beq_self_eq_true, cond_true]
    · rw [decide_eq_true (show (c.2.2.2.2.2.2.2.length : Int) > 100 by omega)]
      rfl
  · rw [decide_eq_true (show (c.2.2.2.2.2.2.1.length : Int) > 100 by omega)]
    rfl
theorem law_run (a0 : Cmd) (w0 : WF CT a0) : runHow E (evalF E 3000) 3000 s5 a0 h5 = some true := (law_R 3000 a0).trans (law a0 w0)
end Go.Proofs.YtdmmcjefpbbceaaDoor.ELineWrites
