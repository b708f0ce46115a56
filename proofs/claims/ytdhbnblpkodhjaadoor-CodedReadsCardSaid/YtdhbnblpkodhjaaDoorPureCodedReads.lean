import Derived.Test.YtdhbnblpkodhjaaDoorRefDecCodedReads
import Derived.Test.YtdhbnblpkodhjaaDoorDecCodedReads
import Derived.Test.YtdhbnblpkodhjaaDoorSameCodedReads
namespace Go.Proofs.YtdhbnblpkodhjaaDoor.ECodedReads
open Go Go.Proofs.YtdhbnblpkodhjaaDoor.AE Go.Proofs.YtdhbnblpkodhjaaDoor
set_option linter.unusedVariables false
set_option linter.unusedSimpArgs false
theorem awake : R11 1300 () = some true := by kernel_rfl
theorem toks_ge : ∀ (l : List (List Int)), l.length ≤ (toksB l).length
  | [] => Nat.zero_le _
  | t :: l => by
    have h1 := toks_ge l
    have h2 : (toksB (t :: l)).length = (tokB t).length + (toksB l).length := by simp [toksB]
    have h3 : 0 < (tokB t).length := by unfold tokB; rw [List.length_append, List.length_cons]; omega
    rw [h2, List.length_cons]; omega
theorem hunks_ge : ∀ (s : List Hk), s.length ≤ (hunksB s).length ∧ ∀ h ∈ s, h.2.1.length ≤ (hunksB s).length ∧ h.2.2.length ≤ (hunksB s).length
  | [] => ⟨Nat.zero_le _, fun _ h => by cases h⟩
  | h :: s => by
    obtain ⟨h1, h2⟩ := hunks_ge s
    have e : (hunksB (h :: s)).length = (hunkB h).length + (hunksB s).length := by simp [hunksB]
    have hp := hunkB_pos h
    have e2 : (hunkB h).length = (lineB h.1.toNat h.2.1.length h.2.2.length).length + ((toksB h.2.1).length + (toksB h.2.2).length) := by unfold hunkB; simp
    have t1 := toks_ge h.2.1
    have t2 := toks_ge h.2.2
    refine ⟨by rw [e, List.length_cons]; omega, fun g hg => ?_⟩
    rcases List.mem_cons.1 hg with rfl | hg
    · omega
    · have := h2 g hg; omega
theorem law (b : List Int) (w0 : WF (.slice (.int .u8)) b) : R5 1301 b = some true := by
  have hb : ∀ x ∈ b, 0 ≤ x ∧ x ≤ 255 := fun x hx => wf_u8 (w0.2 x hx)
  rw [u5]
  unfold r5
  rw [awake, Option.bind_some]
  simp only [Bool.not_true, cond_false]
  by_cases h : b.length ≤ 600
  · rw [decide_eq_false (show ¬ (b.length : Int) > 600 by omega), cond_false, Decode_is 1294 b hb (by omega) (by omega), Option.bind_some, RefDecode_is 1297 b hb (by omega) (by omega), Option.bind_some]
    cases hd : decS b with
    | inr p =>
      simp only [decide_true, beq_self_eq_true, cond_true]
      have := same_is 1298 0 [] (by simp) (by omega) (by omega) (by simp) (by simp)
      rw [this]
      rfl
    | inl r =>
      obtain ⟨mode, s⟩ := r
      obtain ⟨_, _, he⟩ := dec_some b mode s hd
      have hl : b.length = 16 + ((hunksB s).length + 2) := by
        have := congrArg List.length he
        unfold encS at this
        rw [List.length_append, List.length_append, hd_len] at this
        exact this
      obtain ⟨g1, g2⟩ := hunks_ge s
      simp only [decide_true, beq_self_eq_true, cond_true]
      have := same_is 1298 600 s (by omega) (by omega) (by omega) (by omega) (fun h hh => by have := g2 h hh; omega)
      rw [this]
      rfl
  · rw [decide_eq_true (show (b.length : Int) > 600 by omega), cond_true]
theorem law_run (a0 : List Int) (w0 : WF (.slice (.int .u8)) a0) : runHow E (evalF E 1300) 1300 s5 a0 h5 = some true :=
  (law_R 1300 a0).trans (law a0 w0)
end Go.Proofs.YtdhbnblpkodhjaaDoor.ECodedReads
