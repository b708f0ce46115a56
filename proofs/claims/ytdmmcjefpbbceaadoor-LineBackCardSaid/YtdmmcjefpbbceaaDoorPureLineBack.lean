import Derived.Test.YtdmmcjefpbbceaaDoorLin5LineBack
namespace Go.Proofs.YtdmmcjefpbbceaaDoor.ELineBack
open Go Go.Proofs.YtdmmcjefpbbceaaDoor.AE Go.Proofs.YtdmmcjefpbbceaaDoor
set_option linter.unusedVariables false
abbrev CT : Ty := .pair (.int .i64) (.pair (.int .i64) (.pair (.int .i64) (.pair (.int .i64) (.pair (.int .i64) (.pair (.int .i64) (.pair (.slice (.int .u8)) (.one (.slice (.int .u8)))))))))
theorem in_of (c : Cmd) (w : WF CT c) (h1 : c.2.2.2.2.2.2.1.length ≤ 100) (h2 : c.2.2.2.2.2.2.2.length ≤ 100) : InC c := by
  obtain ⟨_, _, _, wt, wk, ww, wa, wb⟩ := w
  exact ⟨⟨fun x hx => wf_u8 (wa.2 x hx), fun x hx => wf_u8 (wb.2 x hx)⟩, by omega, by omega, wf_i64 wt, wf_i64 wk, wf_i64 ww⟩
theorem awake : R11 3000 () = some true := by kernel_rfl
theorem rest (t : ByteArray) (ht : t.size ≤ 300) : (Option.bind (R8 3000 t) fun y27 =>
    bif !decide (y27.2.2 = (0 : Int)) then (bif decide (y27.2.2 = (4 : Int)) == true then (bif decide (y27.1.1 = (0 : Int)) == true then some (decide (IntKind.wrap .i64 ((y27.1.2.2.2.2.2.2.1.length : Int) + (y27.1.2.2.2.2.2.2.2.length : Int)) = 0)) else some false) else some false)
    else Option.bind (R9 3000 y27.1) fun y35 => bif decide (y35.2 = (0 : Int)) == true then some (strEq y35.1 t) else some false) = some true := by
  rw [Parse_is 2987 t (by omega) (by omega), Option.bind_some]
  have hin := parse_in ht
  cases hp : parseS t with
  | mk c r =>
    obtain ⟨at', e⟩ := r
    rw [hp] at hin
    by_cases z : e = 0
    · subst z
      have ht2 := text_of_parse hp
      simp only [decide_true, Bool.not_true, cond_false]
      rw [Text_is 799 c hin, Option.bind_some, ht2]
      have es : strEq t t = true := by unfold strEq; simp
      simp only [decide_true, beq_self_eq_true, cond_true, es]
    · obtain ⟨rfl, rfl⟩ := parse_none hp z
      rfl
theorem law (c : Cmd) (t : ByteArray) (w : WF CT c) : R6 3001 c t = some true := by
  rw [u6]
  unfold r6
  dsimp only
  rw [awake, Option.bind_some]
  simp only [Bool.not_true, cond_false]
  by_cases h1 : c.2.2.2.2.2.2.1.length ≤ 100
  · rw [decide_eq_false (show ¬ (c.2.2.2.2.2.2.1.length : Int) > 100 by omega)]
    simp only [beq_self_eq_true, cond_true]
    by_cases h2 : c.2.2.2.2.2.2.2.length ≤ 100
    · rw [decide_eq_false (show ¬ (c.2.2.2.2.2.2.2.length : Int) > 100 by omega)]
      simp only [beq_self_eq_true, cond_true]
      by_cases h3 : t.size ≤ 300
      · rw [decide_eq_false (show ¬ (t.size : Int) > 300 by omega)]
        simp only [cond_false]
        have hin := in_of c w h1 h2
        rw [Text_is 799 c hin, Option.bind_some]
        rcases text_cases c with ⟨s, e, hp⟩ | e
        · have hsz : s.size ≤ 2200 := by
            have ht := words_tot c hin
            have hs := split_tot s
            obtain ⟨_, _, h3, _⟩ := parse_some hp rfl
            rw [h3] at hs
            omega
          rw [e]
          simp only [decide_true, cond_true]
          rw [Parse_is 2987 s (by omega) (by omega), Option.bind_some, hp]
          simp only [decide_true, Bool.not_true, beq_self_eq_true, cond_true]
          rw [same_self 2999 c, Option.bind_some]
          simp only [Bool.not_true, cond_false]
          exact rest t h3
        · rw [e]
          simp only [show decide ((1 : Int) = 0) = false from rfl, cond_false]
          exact rest t h3
      · rw [decide_eq_true (show (t.size : Int) > 300 by omega)]
        rfl
    · rw [decide_eq_true (show (c.2.2.2.2.2.2.2.length : Int) > 100 by omega)]
      rfl
  · rw [decide_eq_true (show (c.2.2.2.2.2.2.1.length : Int) > 100 by omega)]
    rfl
theorem law_run (a0 : Cmd) (w0 : WF CT a0) (a1 : ByteArray) (w1 : WF .str a1) : runHow E (evalF E 3000) 3000 s6 (a0, a1) h6 = some true := (law_R 3000 a0 a1).trans (law a0 a1 w0)
end Go.Proofs.YtdmmcjefpbbceaaDoor.ELineBack
