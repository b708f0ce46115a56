import Derived.Test.YtakjaafenhdpjaaGreatPat3TopAnyBytes
namespace Go.Proofs.YtakjaafenhdpjaaGreat.ETopAnyBytes
open Go Go.Proofs.YtakjaafenhdpjaaGreat.AE Go.Proofs.YtakjaafenhdpjaaGreat
set_option linter.unusedVariables false
set_option linter.unusedSimpArgs false
/-! A script turned round. -/
def invL : List Hk → Int → Option (List Hk)
  | [], _ => some []
  | h :: s, d => if h.1 + d > 1048576 then none else (invL s (d + ((h.2.2.length : Int) - (h.2.1.length : Int)))).map fun t => (h.1 + d, (h.2.2, h.2.1)) :: t
theorem inv_loop (k W : Nat) (s : List Hk) (hk : W < k) (hW : W ≤ 1099511627776) (hs : s.length ≤ W) (hat : ∀ h ∈ s, -1 ≤ h.1 ∧ h.1 ≤ 1048576) :
    ∀ (m j : Nat) (d : Int) (acc : List Hk), s.length - j < m → j ≤ s.length → d + (swt (s.drop j) : Int) ≤ (W : Int) → (swt (s.drop j) : Int) ≤ (W : Int) + d → acc.length ≤ j →
    ∃ d', J13_0 (k + 3) m (d, s, (s.length : Int), (j : Int), acc) = some (match invL (s.drop j) d with
      | some r => .inl (d', s, (s.length : Int), (s.length : Int), acc ++ r)
      | none => .inr ([], 2))
  | 0, j, d, acc, h, _, _, _, _ => by omega
  | m + 1, j, d, acc, h, hj, hd1, hd2, hac => by
    rw [j13_0]
    unfold F13_0
    simp only
    by_cases hq : j < s.length
    · have hd : s.drop j = s[j] :: s.drop (j + 1) := List.drop_eq_getElem_cons hq
      have h2 : (0 ≤ (j : Int) ∧ (j : Int) < (s.length : Int)) := ⟨by omega, by omega⟩
      rw [swt_drop hq] at hd1 hd2
      have ha := hat s[j] (List.getElem_mem hq)
      simp only [decide_eq_true (show (j : Int) < (s.length : Int) by omega), cond_true, if_pos h2, getD_l s hq]
      rw [hd]
      have sj := succ_i hq (show s.length ≤ 1099511627776 by omega)
      generalize s[j] = x at *
      obtain ⟨x1, o, w⟩ := x
      have l1 := wt_len o
      have l2 := wt_len w
      simp only at ha hd1 hd2 ⊢
      unfold invL
      simp only
      rw [w64 (show -9223372036854775808 ≤ x1 + d by omega) (by omega)]
      by_cases c : x1 + d > 1048576
      · rw [decide_eq_true c, cond_true, if_pos c]
        exact ⟨0, rfl⟩
      · have hoW : wt o ≤ 1099511627776 := by omega
        have hwW : wt w ≤ 1099511627776 := by omega
        rw [decide_eq_false c, cond_false, if_neg c, more_is (k + 1) w [] hwW (by simp) (by omega), Option.bind_some, more_is (k + 1) o [] hoW (by simp) (by omega), Option.bind_some]
        rw [if_pos (by rw [List.length_singleton]; omega), w64 (show -9223372036854775808 ≤ (w.length : Int) - (o.length : Int) by omega) (by omega), w64 (show -9223372036854775808 ≤ d + ((w.length : Int) - (o.length : Int)) by omega) (by omega), sj]
        obtain ⟨d', ih⟩ := inv_loop k W s hk hW hs hat m (j + 1) (d + ((w.length : Int) - (o.length : Int))) (acc ++ [(x1 + d, (w, o))]) (by omega) hq (by omega) (by omega) (by rw [List.length_append, List.length_singleton]; omega)
        refine ⟨d', Eq.trans ih ?_⟩
        cases invL (s.drop (j + 1)) (d + ((w.length : Int) - (o.length : Int))) with
        | none => rfl
        | some r => simp
    · obtain rfl : j = s.length := by omega
      refine ⟨d, ?_⟩
      simp only [decide_eq_false (show ¬ (s.length : Int) < (s.length : Int) by omega), cond_false, List.drop_length]
      simp [invL]
def resI (s : List Hk) : List Hk × Int := if goodB (-1) s then (match invL s 0 with | some t => (t, 0) | none => ([], 2)) else ([], 1)
theorem Invert_is (k : Nat) (s : List Hk) (hk : swt s < k) (hW : swt s ≤ 1099511627776) (hat : ∀ h ∈ s, -1 ≤ h.1 ∧ h.1 ≤ 1048576) : R13 (k + 4) s = some (resI s) := by
  have h1 := swt_len s
  rw [u13]
  unfold r13 resI
  rw [good_is (k + 1) (swt s) s (by omega) (by omega) (by omega) (by omega) (swt_lim s), Option.bind_some]
  cases hg : goodB (-1) s with
  | false => rfl
  | true =>
    obtain ⟨d', e⟩ := inv_loop k (swt s) s hk hW h1 hat (k + 3) 0 0 [] (by omega) (Nat.zero_le _) (by rw [List.drop_zero]; omega) (by rw [List.drop_zero]; omega) (Nat.le_refl _)
    have e : J13_0 (k + 3) (k + 3) (0, s, (s.length : Int), 0, []) = _ := e
    rw [List.drop_zero] at e
    simp only [Bool.not_true, cond_false, e, Option.bind_some, if_true]
    cases invL s 0 <;> rfl
theorem invL_facts : ∀ (s : List Hk) (d : Int) (t : List Hk), invL s d = some t → swt t = swt s ∧ (ByS s → ByS t) ∧ (∀ B : Int, 0 ≤ B → (∀ h ∈ s, -1 ≤ h.1) → (swt s : Int) ≤ B + d → ∀ h ∈ t, -B - 1 ≤ h.1 ∧ h.1 ≤ 1048576)
  | [], d, t, h => by cases h; exact ⟨rfl, fun h => h, fun B _ _ _ h hh => by cases hh⟩
  | x :: s, d, t, h => by
    unfold invL at h
    split at h
    · cases h
    · rename_i hc
      cases hr : invL s (d + ((x.2.2.length : Int) - (x.2.1.length : Int))) with
      | none => rw [hr] at h; cases h
      | some r =>
        rw [hr] at h
        cases h
        obtain ⟨e1, e2, e3⟩ := invL_facts s _ r hr
        have l1 := wt_len x.2.1
        have l2 := wt_len x.2.2
        refine ⟨by show 1 + wt x.2.2 + wt x.2.1 + swt r = 1 + wt x.2.1 + wt x.2.2 + swt s; omega, fun hb h hh => ?_, fun B hB hlo hle h hh => ?_⟩
        · rcases List.mem_cons.1 hh with rfl | hh
          · have := hb x (List.mem_cons_self ..)
            exact ⟨this.2, this.1⟩
          · exact e2 (fun g hg => hb g (List.mem_cons_of_mem _ hg)) h hh
        · have hx := hlo x (List.mem_cons_self ..)
          rw [swt_cons] at hle
          rcases List.mem_cons.1 hh with rfl | hh
          · show -B - 1 ≤ x.1 + d ∧ x.1 + d ≤ 1048576
            omega
          · exact e3 B hB (fun g hg => hlo g (List.mem_cons_of_mem _ hg)) (by omega) h hh
end Go.Proofs.YtakjaafenhdpjaaGreat.ETopAnyBytes
