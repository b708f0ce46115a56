import Derived.Test.YtdhbnblpkodhjaaDoorEncCodedOnce
import Derived.Test.YtdhbnblpkodhjaaDoorDecCodedOnce
import Derived.Test.YtdhbnblpkodhjaaDoorFmtKitCodedOnce
namespace Go.Proofs.YtdhbnblpkodhjaaDoor.ECodedOnce
open Go Go.Proofs.YtdhbnblpkodhjaaDoor.AE Go.Proofs.YtdhbnblpkodhjaaDoor
set_option linter.unusedVariables false
set_option linter.unusedSimpArgs false
theorem awake : R11 1300 () = some true := by kernel_rfl
theorem law (b more : List Int) (w0 : WF (.slice (.int .u8)) b) (w1 : WF (.slice (.int .u8)) more) : R7 1301 b more = some true := by
  rw [u7]
  unfold r7
  dsimp only
  rw [awake, Option.bind_some]
  simp only [Bool.not_true, cond_false]
  by_cases c1 : b.length ≤ 600
  · by_cases c2 : more.length ≤ 20
    · have ob : OkB b := fun x hx => wf_u8 (w0.2 x hx)
      have om : OkB more := fun x hx => wf_u8 (w1.2 x hx)
      rw [decide_eq_false (show ¬ (b.length : Int) > 600 by omega), decide_eq_false (show ¬ (more.length : Int) > 20 by omega)]
      simp only [beq_self_eq_true, cond_true, cond_false]
      rw [Decode_is 1294 b ob (by omega) (by omega), Option.bind_some]
      cases hd : decS b with
      | inr p => rfl
      | inl r =>
        obtain ⟨mode, s⟩ := r
        obtain ⟨hm, ho, e⟩ := dec_some b mode s hd
        subst e
        have hby := byt_of_enc ho ob
        have hl := enc_len mode s
        have hB : BytH s := fun h hh => ⟨fun t ht => ⟨by have := ((hby h hh).1 t ht).1; omega, ((hby h hh).1 t ht).2⟩, fun t ht => ⟨by have := ((hby h hh).2 t ht).1; omega, ((hby h hh).2 t ht).2⟩⟩
        have he : R9 1300 mode s = some (encS mode s, 0) := by
          rcases Encode_is 1293 mode s hB (by omega) (by omega) with ⟨_, _, e⟩ | ⟨h, _⟩
          · exact e
          · exact absurd ⟨hm, ho⟩ h
        simp only [decide_true, Bool.not_true, cond_false]
        rw [he, Option.bind_some]
        have w : IntKind.wrap .i64 (((encS mode s).length : Int) - 1) = (((encS mode s).length - 1 : Nat) : Int) := by rw [w64 (by omega) (by omega)]; omega
        have ec : cut (encS mode s) 0 (((encS mode s).length - 1 : Nat) : Int) = (encS mode s).take ((encS mode s).length - 1) := rfl
        rw [w, if_pos (by omega), ec]
        rw [Decode_is 1294 _ (fun x hx => ob x (List.mem_of_mem_take hx)) (by rw [List.length_take]; omega) (by rw [List.length_take]; omega), Option.bind_some]
        rw [if_pos (by simp only [List.length_nil]; omega), List.nil_append, if_pos (by omega)]
        rw [Decode_is 1294 _ (okB_app ob om) (by rw [List.length_append]; omega) (by rw [List.length_append]; omega), Option.bind_some, dec_enc mode s more hm ho]
        cases hx : decS ((encS mode s).take ((encS mode s).length - 1)) with
        | inl x => exact absurd hx (dec_less mode s x)
        | inr p =>
          simp only [decide_true, beq_self_eq_true, cond_true, bytesStr_strEq]
          cases more with
          | nil => rfl
          | cons y l =>
            rw [if_neg (by simp)]
            simp only [decide_eq_false (show ¬ ((y :: l).length : Int) = 0 by rw [List.length_cons]; omega), decide_eq_true (show ((y :: l).length : Int) > 0 by rw [List.length_cons]; omega)]
            simp
    · rw [decide_eq_false (show ¬ (b.length : Int) > 600 by omega), decide_eq_true (show (more.length : Int) > 20 by omega)]
      rfl
  · rw [decide_eq_true (show (b.length : Int) > 600 by omega)]
    rfl
theorem law_run (a0 : List Int) (w0 : WF (.slice (.int .u8)) a0) (a1 : List Int) (w1 : WF (.slice (.int .u8)) a1) : runHow E (evalF E 1300) 1300 s7 (a0, a1) h7 = some true :=
  (law_R 1300 a0 a1).trans (law a0 a1 w0 w1)
end Go.Proofs.YtdhbnblpkodhjaaDoor.ECodedOnce
