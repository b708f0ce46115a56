import Derived.Test.YtippdbhefcmebaaSymMaskSays
namespace Go.Proofs.Ytippdbhefcmebaa.EMaskSays
open Go Go.Proofs.Ytippdbhefcmebaa.AE Go.Proofs.Ytippdbhefcmebaa.VecMath Go.Proofs.Ytippdbhefcmebaa.MaskX
set_option linter.unusedVariables false
set_option linter.unusedSimpArgs false
theorem of_ (k : Nat) (b : List Int) (y : Int) : R9 (k + 1) b y = maskOf (b, y) := rfl
theorem says_loop (b : List Int) (sym : Int) (hb : b.length ≤ 200) (hw : ∀ x ∈ b, inI64 x = true) (n : Nat) : ∀ (m i : Nat), i ≤ b.length + 7 → b.length + 7 - i < m →
    ∃ z, J4_0 (n + 1300) m (b, sym, b, (i : Int)) = some (.inl z) ∧ z.1 = b ∧ z.2.1 = sym ∧ z.2.2.1 = b
  | 0, i, _, h => by omega
  | m + 1, i, hi, h => by
    rw [j4_0]
    unfold F4_0
    dsimp only
    by_cases c : i < b.length
    · have hib : (0 : Int) ≤ (i : Int) ∧ (i : Int) < (b.length : Int) := by omega
      have e4 : IntKind.wrap .i64 ((i : Int) + 7) = ((i + 7 : Nat) : Int) := by rw [w64 (by omega) (by omega)]; rfl
      have hx : inI64 (b.getD i 0) = true := by
        refine hw _ ?_
        rw [List.getD_eq_getElem?_getD, List.getElem?_eq_getElem c]
        exact List.getElem_mem _
      rw [decide_eq_true (show (i : Int) < (b.length : Int) by omega), cond_true, if_pos hib]
      rw [of_, Int.toNat_natCast, maskOf_is b _ (by omega) hx]
      simp only [Option.bind_some, if_pos hib, e4]
      rw [mask_is (n + 1297) b _ (by omega) (by omega)]
      simp only [Option.bind_some]
      rw [same_self (n + 1299) _ (by rw [lay_length]; omega) (by rw [lay_length]; omega)]
      simp only [Option.bind_some, Bool.not_true, cond_false]
      exact says_loop b sym hb hw n m (i + 7) (by omega) (by omega)
    · rw [decide_eq_false (show ¬ (i : Int) < (b.length : Int) by omega), cond_false]
      exact ⟨_, rfl, rfl, rfl, rfl⟩
theorem awake : R8 1300 () = some true := by kernel_rfl
theorem law (b : List Int) (sym : Int) (w0 : WF (.slice (.int .i64)) b) (w1 : WF (.int .i64) sym) : R4 1301 b sym = some true := by
  rw [u4]
  unfold r4
  dsimp only
  rw [awake]
  simp only [Option.bind_some, Bool.not_true, cond_false]
  by_cases hb : (b.length : Int) > 200
  · rw [decide_eq_true hb]; rfl
  · have hb' : b.length ≤ 200 := by omega
    have hw : ∀ x ∈ b, inI64 x = true := fun x hx => wf_in (w0.2 x hx)
    have hnew : R7 1300 b = some b := by
      show maskNew b = some b
      unfold maskNew
      rw [if_pos]
      simp only [Bool.and_eq_true, decide_eq_true_eq, List.all_eq_true]
      exact ⟨by omega, hw⟩
    obtain ⟨z, hz, h1, h2, h3⟩ := says_loop b sym hb' hw 0 1300 0 (by omega) (by omega)
    have hz' : J4_0 1300 1300 (b, sym, b, 0) = some (.inl z) := hz
    rw [decide_eq_false hb, cond_false, hnew]
    simp only [Option.bind_some]
    rw [hz']
    simp only [Option.bind_some, onSum, h1, h2, h3]
    have hl : R10 1300 b = some (b.length : Int) := rfl
    have hwd : R11 1300 b = some (((b.length + 63) / 64 : Nat) : Int) := by
      show maskWordsOf b = _
      unfold maskWordsOf maskWords
      rw [Nat.min_eq_left (by omega)]
    have hsy : R12 1300 b = some (symsOf b) := rfl
    rw [hl, hwd, hsy]
    simp only [Option.bind_some, decide_true, BEq.rfl, cond_true]
    rw [ref_words 1298 _ (by omega) (by omega)]
    have e : ((b.length : Int) + 63) / 64 = (((b.length + 63) / 64 : Nat) : Int) := by omega
    simp only [Option.bind_some, e, decide_true, BEq.rfl, cond_true]
    rw [of_ 1299, maskOf_is b sym (by omega) (wf_in w1)]
    simp only [Option.bind_some]
    rw [mask_is 1297 b sym (by omega) (by omega)]
    simp only [Option.bind_some]
    rw [same_self 1299 _ (by rw [lay_length]; omega) (by rw [lay_length]; omega)]
    simp only [Option.bind_some, BEq.rfl, cond_true]
    rw [syms_is 1299 b (by omega) (by omega)]
    simp only [Option.bind_some]
    have hsl := symsOf_len b
    rw [ints_self 1299 _ (by omega) (by omega)]
    rfl
theorem law_run (a0 : List Int) (w0 : WF (.slice (.int .i64)) a0) (a1 : Int) (w1 : WF (.int .i64) a1) : runHow E (evalF E 1300) 1300 s4 (a0, a1) h4 = some true :=
  (law_R 1300 a0 a1).trans (law a0 a1 w0 w1)
end Go.Proofs.Ytippdbhefcmebaa.EMaskSays
