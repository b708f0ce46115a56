import Derived.Test.YtippdbhefcmebaaSymMaskApart
namespace Go.Proofs.Ytippdbhefcmebaa.EMaskApart
open Go Go.Proofs.Ytippdbhefcmebaa.AE Go.Proofs.Ytippdbhefcmebaa.VecMath Go.Proofs.Ytippdbhefcmebaa.MaskX
set_option linter.unusedVariables false
set_option linter.unusedSimpArgs false
/-! Three loops write into rows that nothing else reads. -/
theorem own_loop (b : List Int) (sym : Int) (mk0 : List Int) (n : Nat) : ∀ (m i : Nat) (l : List Int), l.length ≤ 1048576 → i ≤ l.length → l.length - i < m →
    ∃ z, J5_0 n m (b, sym, mk0, (i : Int), l) = some (.inl z) ∧ z.1 = b ∧ z.2.1 = sym ∧ z.2.2.1 = mk0
  | 0, i, l, _, _, h => by omega
  | m + 1, i, l, hl, hi, h => by
    rw [j5_0]
    unfold F5_0
    dsimp only
    by_cases c : i < l.length
    · have hib : (0 : Int) ≤ (i : Int) ∧ (i : Int) < (l.length : Int) := by omega
      have e4 : IntKind.wrap .i64 ((i : Int) + 1) = ((i + 1 : Nat) : Int) := by rw [w64 (by omega) (by omega)]; rfl
      rw [decide_eq_true (show (i : Int) < (l.length : Int) by omega), cond_true, if_pos hib, e4]
      exact own_loop b sym mk0 n m (i + 1) _ (by simpa using hl) (by simp; omega) (by simp; omega)
    · rw [decide_eq_false (show ¬ (i : Int) < (l.length : Int) by omega), cond_false]
      exact ⟨_, rfl, rfl, rfl, rfl⟩
theorem of_loop (b : List Int) (sym : Int) (mk0 : List Int) (n : Nat) : ∀ (m i : Nat) (l : List Int), l.length ≤ 1048576 → i ≤ l.length → l.length - i < m →
    ∃ z, J5_1 n m (b, sym, mk0, (i : Int), l) = some (.inl z) ∧ z.1 = b ∧ z.2.1 = sym ∧ z.2.2.1 = mk0
  | 0, i, l, _, _, h => by omega
  | m + 1, i, l, hl, hi, h => by
    rw [j5_1]
    unfold F5_1
    dsimp only
    by_cases c : i < l.length
    · have hib : (0 : Int) ≤ (i : Int) ∧ (i : Int) < (l.length : Int) := by omega
      have e4 : IntKind.wrap .i64 ((i : Int) + 1) = ((i + 1 : Nat) : Int) := by rw [w64 (by omega) (by omega)]; rfl
      rw [decide_eq_true (show (i : Int) < (l.length : Int) by omega), cond_true, if_pos hib, e4]
      exact of_loop b sym mk0 n m (i + 1) _ (by simpa using hl) (by simp; omega) (by simp; omega)
    · rw [decide_eq_false (show ¬ (i : Int) < (l.length : Int) by omega), cond_false]
      exact ⟨_, rfl, rfl, rfl, rfl⟩
theorem sy_loop (b : List Int) (sym : Int) (mk0 : List Int) (n : Nat) : ∀ (m i : Nat) (l : List Int), l.length ≤ 1048576 → i ≤ l.length → l.length - i < m →
    ∃ z, J5_2 n m (b, sym, mk0, (i : Int), l) = some (.inl z) ∧ z.1 = b ∧ z.2.1 = sym ∧ z.2.2.1 = mk0
  | 0, i, l, _, _, h => by omega
  | m + 1, i, l, hl, hi, h => by
    rw [j5_2]
    unfold F5_2
    dsimp only
    by_cases c : i < l.length
    · have hib : (0 : Int) ≤ (i : Int) ∧ (i : Int) < (l.length : Int) := by omega
      have e4 : IntKind.wrap .i64 ((i : Int) + 1) = ((i + 1 : Nat) : Int) := by rw [w64 (by omega) (by omega)]; rfl
      rw [decide_eq_true (show (i : Int) < (l.length : Int) by omega), cond_true, if_pos hib, e4]
      exact sy_loop b sym mk0 n m (i + 1) _ (by simpa using hl) (by simp; omega) (by simp; omega)
    · rw [decide_eq_false (show ¬ (i : Int) < (l.length : Int) by omega), cond_false]
      exact ⟨_, rfl, rfl, rfl, rfl⟩
theorem awake : R8 1300 () = some true := by kernel_rfl
theorem law (b : List Int) (sym : Int) (w0 : WF (.slice (.int .i64)) b) (w1 : WF (.int .i64) sym) : R5 1301 b sym = some true := by
  rw [u5]
  unfold r5
  dsimp only
  rw [awake]
  simp only [Option.bind_some, Bool.not_true, cond_false]
  by_cases hb : (b.length : Int) > 100
  · rw [decide_eq_true hb]; rfl
  · have hb' : b.length ≤ 100 := by omega
    have hw : ∀ x ∈ b, inI64 x = true := fun x hx => wf_in (w0.2 x hx)
    have hnew : R7 1300 b = some (b, b) := by
      show maskNewRow b = some (b, b)
      have h1 : maskNew b = some b := by
        unfold maskNew
        rw [if_pos]
        simp only [Bool.and_eq_true, decide_eq_true_eq, List.all_eq_true]
        exact ⟨by omega, hw⟩
      unfold maskNewRow
      rw [h1]
    have hof : R9 1300 b sym = some (lay (mkB b sym b.length) ((b.length + 63) / 64)) := maskOf_is b sym (by omega) (wf_in w1)
    have hsy : R12 1300 b = some (symsOf b) := rfl
    have hsl := symsOf_len b
    have hsz : ((0 : Nat) + b.length) * 8 ≤ 140737488355328 ∧ 0 + b.length ≤ 140737488355328 := by omega
    rw [decide_eq_false hb, cond_false]
    simp only [List.length_nil, List.nil_append]
    rw [if_pos hsz, hnew]
    simp only [Option.bind_some]
    obtain ⟨z, hz, h1, h2, h3⟩ := own_loop b sym b 1300 1300 0 b (by omega) (by omega) (by omega)
    have hz' : J5_0 1300 1300 (b, sym, b, 0, b) = some (.inl z) := hz
    rw [hz']
    simp only [Option.bind_some, onSum, h1, h2, h3, hof]
    obtain ⟨z1, hz1, h4, h5, h6⟩ := of_loop b sym b 1300 1300 0 (lay (mkB b sym b.length) ((b.length + 63) / 64)) (by rw [lay_length]; omega) (by omega) (by rw [lay_length]; omega)
    have hz1' : J5_1 1300 1300 (b, sym, b, 0, lay (mkB b sym b.length) ((b.length + 63) / 64)) = some (.inl z1) := hz1
    rw [hz1']
    simp only [Option.bind_some, onSum, h4, h5, h6, hsy]
    obtain ⟨z2, hz2, h7, h8, h9⟩ := sy_loop b sym b 1300 1300 0 (symsOf b) (by omega) (by omega) (by omega)
    have hz2' : J5_2 1300 1300 (b, sym, b, 0, symsOf b) = some (.inl z2) := hz2
    rw [hz2']
    simp only [Option.bind_some, onSum, h7, h8, h9, hof, hsy]
    rw [mask_is 1297 b sym (by omega) (by omega)]
    simp only [Option.bind_some]
    rw [same_self 1299 _ (by rw [lay_length]; omega) (by rw [lay_length]; omega)]
    simp only [Option.bind_some, BEq.rfl, cond_true]
    rw [syms_is 1299 b (by omega) (by omega)]
    simp only [Option.bind_some]
    rw [ints_self 1299 _ (by omega) (by omega)]
    rfl
theorem law_run (a0 : List Int) (w0 : WF (.slice (.int .i64)) a0) (a1 : Int) (w1 : WF (.int .i64) a1) : runHow E (evalF E 1300) 1300 s5 (a0, a1) h5 = some true :=
  (law_R 1300 a0 a1).trans (law a0 a1 w0 w1)
end Go.Proofs.Ytippdbhefcmebaa.EMaskApart
