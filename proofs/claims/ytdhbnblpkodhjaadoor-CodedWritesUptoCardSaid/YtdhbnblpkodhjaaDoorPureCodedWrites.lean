import Derived.Test.YtdhbnblpkodhjaaDoorUptoX
import Derived.Test.YtdhbnblpkodhjaaDoorRefEncCodedWrites
import Derived.Test.YtdhbnblpkodhjaaDoorSmallCodedWrites
import Derived.Test.YtdhbnblpkodhjaaDoorFmtKitCodedWrites
namespace Go.Proofs.YtdhbnblpkodhjaaDoor.ECodedWrites
open Go Go.Proofs.YtdhbnblpkodhjaaDoor.AE Go.Proofs.YtdhbnblpkodhjaaDoor
set_option linter.unusedVariables false
set_option linter.unusedSimpArgs false
abbrev HkT : Ty := .slice (.pair (.int .i64) (.pair (.slice (.slice (.int .u8))) (.one (.slice (.slice (.int .u8))))))
theorem bytes_of {s : List Hk} (w : WU 1048576 HkT s) : s.length ≤ 1048576 ∧ (∀ h ∈ s, h.2.1.length ≤ 1048576 ∧ h.2.2.length ≤ 1048576) ∧ BytH s ∧ (∀ h ∈ s, (∀ t ∈ h.2.1, OkB t) ∧ (∀ t ∈ h.2.2, OkB t)) := by
  refine ⟨w.1.2, fun h hh => ?_, fun h hh => ?_, fun h hh => ?_⟩
  · obtain ⟨_, a, b⟩ := w.2 h hh
    exact ⟨a.1.2, b.1.2⟩
  · obtain ⟨_, a, b⟩ := w.2 h hh
    exact ⟨fun t ht => ⟨Nat.le_trans (a.2 t ht).1.2 (by decide), fun x hx => wf_u8 ((a.2 t ht).2 x hx)⟩, fun t ht => ⟨Nat.le_trans (b.2 t ht).1.2 (by decide), fun x hx => wf_u8 ((b.2 t ht).2 x hx)⟩⟩
  · obtain ⟨_, a, b⟩ := w.2 h hh
    exact ⟨fun t ht x hx => wf_u8 ((a.2 t ht).2 x hx), fun t ht x hx => wf_u8 ((b.2 t ht).2 x hx)⟩
theorem ats_of {s : List Hk} (w : WU 1048576 HkT s) : ∀ h ∈ s, -9223372036854775808 ≤ h.1 ∧ h.1 ≤ 9223372036854775807 := fun h hh => wf_i64 (w.2 h hh).1
theorem awake : R11 40000 () = some true := by kernel_rfl
theorem law (mode : Int) (s : List Hk) (w1 : WU 1048576 HkT s) : R4 40001 mode s = some true := by
  obtain ⟨b1, b2, b3, b4⟩ := bytes_of w1
  have hat := ats_of w1
  rw [u4]
  unfold r4
  dsimp only
  rw [awake, Option.bind_some, small_is 39999 (by omega) s b1 b2, Option.bind_some]
  cases hs : smallS s with
  | false => rfl
  | true =>
    unfold smallS at hs
    rw [Bool.and_eq_true, decide_eq_true_eq] at hs
    have hB := hunks_small s hs.2
    have hB2 : (hunksB s).length ≤ 31488 := by omega
    simp only [Bool.not_true, cond_false]
    rcases Encode_is 39993 mode s b3 (by omega) (by omega) with ⟨hm, ho, e⟩ | ⟨hn, e⟩
    · rcases REncode_is 39992 mode s b3 (by omega) (by omega) hat with ⟨_, _, e2⟩ | ⟨hn, _⟩
      · rw [e, Option.bind_some, e2, Option.bind_some]
        simp only [decide_true, beq_self_eq_true, cond_true, bytesStr_strEq]
      · exact absurd ⟨hm, ho⟩ hn
    · rcases REncode_is 39992 mode s b3 (by omega) (by omega) hat with ⟨hm, ho, _⟩ | ⟨_, e2⟩
      · exact absurd ⟨hm, ho⟩ hn
      · rw [e, Option.bind_some, e2, Option.bind_some]
        simp only [decide_true, beq_self_eq_true, cond_true, bytesStr_strEq]
theorem law_run (a0 : Int) (w0 : WU 1048576 (.int .i64) a0) (a1 : List Hk) (w1 : WU 1048576 HkT a1) : runHow E (evalF E 40000) 40000 s4 (a0, a1) h4 = some true :=
  (law_R 40000 a0 a1).trans (law a0 a1 w1)
end Go.Proofs.YtdhbnblpkodhjaaDoor.ECodedWrites
