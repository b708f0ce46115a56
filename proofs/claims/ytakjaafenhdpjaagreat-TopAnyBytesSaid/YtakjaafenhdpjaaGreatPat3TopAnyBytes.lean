import Derived.Test.YtakjaafenhdpjaaGreatPat2TopAnyBytes
namespace Go.Proofs.YtakjaafenhdpjaaGreat.ETopAnyBytes
open Go Go.Proofs.YtakjaafenhdpjaaGreat.AE Go.Proofs.YtakjaafenhdpjaaGreat
set_option linter.unusedVariables false
set_option linter.unusedSimpArgs false
/-! A script done, by the program. -/
theorem swt_cons (h : Hk) (s : List Hk) : swt (h :: s) = 1 + wt h.2.1 + wt h.2.2 + swt s := rfl
theorem swt_drop {s : List Hk} {j : Nat} (h : j < s.length) : swt (s.drop j) = 1 + wt s[j].2.1 + wt s[j].2.2 + swt (s.drop (j + 1)) := by
  rw [List.drop_eq_getElem_cons h]
  rfl
theorem swt_len : ∀ (s : List Hk), s.length ≤ swt s
  | [] => Nat.le_refl _
  | h :: s => by
    have := swt_len s
    rw [swt_cons, List.length_cons]
    omega
theorem swt_lim : ∀ (s : List Hk), Lim (swt s) s
  | [] => fun h hh => by cases hh
  | h :: s => fun g hg => by
    have ih := swt_lim s
    have h1 := wt_len h.2.1
    have h2 := wt_len h.2.2
    rw [swt_cons]
    rcases List.mem_cons.1 hg with rfl | hg
    · omega
    · have := ih g hg
      omega
theorem app_step {a : List (List Int)} {i n : Nat} {o w : List (List Int)} {acc : List (List Int)} {R W : Nat} (hin : i ≤ n) (hW : wt acc + wt (a.drop i) + (1 + wt o + wt w + R) ≤ W) :
    wt ((a.drop i).take (n - i)) ≤ W ∧ wt (acc ++ (a.drop i).take (n - i)) ≤ W ∧ wt (acc ++ (a.drop i).take (n - i) ++ w) + wt (a.drop (n + o.length)) + R ≤ W := by
  have h1 := wt_split (a.drop i) (n - i)
  rw [List.drop_drop, show i + (n - i) = n by omega] at h1
  have h2 := wt_split (a.drop n) o.length
  rw [List.drop_drop] at h2
  have e1 := wt_app acc ((a.drop i).take (n - i))
  have e2 := wt_app (acc ++ (a.drop i).take (n - i)) w
  omega
theorem app_loop (k W : Nat) (a : List (List Int)) (s : List Hk) (hk : W < k) (hW : W ≤ 1099511627776) (hs : s.length ≤ W) (hla : a.length ≤ W) (ha : By a) (hb : ByS s) (hl : Lim W s) :
    ∀ (m j i : Nat) (en : Int) (acc : List (List Int)), s.length - j < m → j ≤ s.length → goodB en (s.drop j) = true → (i : Int) ≤ en + 1 → i ≤ a.length → wt acc + wt (a.drop i) + swt (s.drop j) ≤ W →
    J30_0 (k + 3) m (a, (i : Int), s, (s.length : Int), (j : Int), acc) = some (match appL a (s.drop j) i acc with
      | some (i', acc') => .inl (a, (i' : Int), s, (s.length : Int), (s.length : Int), acc')
      | none => .inr ([], 5))
  | 0, j, i, en, acc, h, _, _, _, _, _ => by omega
  | m + 1, j, i, en, acc, h, hj, hg, hi, hia, hwt => by
    rw [j30_0]
    unfold F30_0
    simp only
    by_cases hq : j < s.length
    · have hd : s.drop j = s[j] :: s.drop (j + 1) := List.drop_eq_getElem_cons hq
      have h2 : (0 ≤ (j : Int) ∧ (j : Int) < (s.length : Int)) := ⟨by omega, by omega⟩
      rw [hd] at hg
      rw [swt_drop hq] at hwt
      have hbj := hb s[j] (List.getElem_mem hq)
      have hlj := hl s[j] (List.getElem_mem hq)
      simp only [decide_eq_true (show (j : Int) < (s.length : Int) by omega), cond_true, if_pos h2, getD_l s hq, succ_i hq (show s.length ≤ 1099511627776 by omega)]
      rw [hd]
      generalize s[j] = x at *
      obtain ⟨x1, o, w⟩ := x
      unfold goodB at hg
      simp only [Bool.and_eq_true, decide_eq_true_eq] at hg hbj hlj hwt ⊢
      obtain ⟨g1, g2, g3, g4, g5, g6⟩ := hg
      obtain ⟨n, rfl⟩ : ∃ n : Nat, x1 = (n : Int) := ⟨x1.toNat, by omega⟩
      obtain ⟨w1, w2, w3⟩ := app_step (o := o) (w := w) (n := n) (by omega) hwt
      rw [stands_is k a o n (by omega) (by omega) (by omega) ha hbj.1 (by omega), Option.bind_some]
      unfold appL
      simp only [Int.toNat_natCast]
      cases hst : standB a o n with
      | false => rfl
      | true =>
        have hle := stand_le hst
        have hwl := wt_len ((a.drop i).take (n - i))
        have hal := wt_len (acc ++ (a.drop i).take (n - i))
        have hww := wt_len w
        have hac : acc.length ≤ W := by have := wt_len acc; omega
        have hww2 : wt w ≤ W := by omega
        simp only [Bool.not_true, cond_false, if_true]
        rw [if_pos (show 0 ≤ (i : Int) ∧ (i : Int) ≤ (n : Int) ∧ (n : Int) ≤ (a.length : Int) by omega), gcut_mid]
        rw [more_is (k + 1) _ acc (by omega) (by omega) (by omega), Option.bind_some, more_is (k + 1) w _ (by omega) (by omega) (by omega), Option.bind_some]
        rw [w64 (show -9223372036854775808 ≤ (n : Int) + (o.length : Int) by omega) (by omega), show (n : Int) + (o.length : Int) = ((n + o.length : Nat) : Int) by omega]
        exact app_loop k W a s hk hW hs hla ha hb hl m (j + 1) (n + o.length) ((n : Int) + (o.length : Int)) _ (by omega) hq g6 (by omega) hle w3
    · obtain rfl : j = s.length := by omega
      simp only [decide_eq_false (show ¬ (s.length : Int) < (s.length : Int) by omega), cond_false, List.drop_length]
      rfl
def resA (a : List (List Int)) (s : List Hk) : List (List Int) × Int := if goodB (-1) s then (match appL a s 0 [] with | some (i, acc) => (acc ++ a.drop i, 0) | none => ([], 5)) else ([], 1)
theorem appL_wt (a : List (List Int)) : ∀ (s : List Hk) (i : Nat) (en : Int) (acc acc' : List (List Int)) (i' : Nat), goodB en s = true → (i : Int) ≤ en + 1 → i ≤ a.length → appL a s i acc = some (i', acc') → i' ≤ a.length ∧ wt acc' + wt (a.drop i') ≤ wt acc + wt (a.drop i) + swt s
  | [], i, en, acc, acc', i', _, _, hia, h => by
    cases h
    exact ⟨hia, by simp [swt]⟩
  | h :: s, i, en, acc, acc', i', hg, hi, hia, hr => by
    unfold goodB at hg
    simp only [Bool.and_eq_true, decide_eq_true_eq] at hg
    unfold appL at hr
    split at hr
    · rename_i hs
      obtain ⟨i1, ih⟩ := appL_wt a s _ (h.1 + (h.2.1.length : Int)) _ _ _ hg.2.2.2.2.2 (by omega) (stand_le hs) hr
      refine ⟨i1, ?_⟩
      have h1 := (app_step (a := a) (i := i) (n := h.1.toNat) (o := h.2.1) (w := h.2.2) (acc := acc) (R := swt s) (W := wt acc + wt (a.drop i) + swt (h :: s)) (by omega) (by rw [swt_cons]; omega)).2.2
      rw [swt_cons] at h1 ⊢
      omega
    · cases hr
theorem resA_wt (a : List (List Int)) (s : List Hk) : wt (resA a s).1 ≤ wt a + swt s := by
  unfold resA
  split
  · rename_i hg
    cases h : appL a s 0 [] with
    | none => exact Nat.zero_le _
    | some p =>
      obtain ⟨i, acc⟩ := p
      have := (appL_wt a s 0 (-1) [] acc i hg (by omega) (Nat.zero_le _) h).2
      rw [List.drop_zero] at this
      show wt (acc ++ a.drop i) ≤ _
      rw [wt_app]
      have e : wt ([] : List (List Int)) = 0 := rfl
      omega
  · exact Nat.zero_le _
theorem Apply_is (k : Nat) (a : List (List Int)) (s : List Hk) (hk : wt a + swt s < k) (hW : wt a + swt s ≤ 1099511627776) (ha : By a) (hb : ByS s) :
    R30 (k + 4) s a = some (resA a s) := by
  have h1 := swt_len s
  have h2 := (wt_len a).1
  have hl : Lim (wt a + swt s) s := fun h hh => by have := swt_lim s h hh; omega
  rw [u30]
  unfold r30 resA
  rw [good_is (k + 1) (wt a + swt s) s (by omega) (by omega) (by omega) (by omega) hl, Option.bind_some]
  cases hg : goodB (-1) s with
  | false => rfl
  | true =>
    have e : J30_0 (k + 3) (k + 3) (a, 0, s, (s.length : Int), 0, []) = _ := app_loop k (wt a + swt s) a s hk hW (by omega) (by omega) ha hb hl (k + 3) 0 0 (-1) [] (by omega) (Nat.zero_le _) (by rw [List.drop_zero]; exact hg) (by omega) (Nat.zero_le _) (by rw [List.drop_zero, List.drop_zero]; show 0 + _ + _ ≤ _; omega)
    rw [List.drop_zero] at e
    simp only [Bool.not_true, cond_false, e, Option.bind_some, if_true]
    cases hr : appL a s 0 [] with
    | none => rfl
    | some p =>
      obtain ⟨i, acc⟩ := p
      obtain ⟨q1, q2⟩ := appL_wt a s 0 (-1) [] acc i hg (by omega) (Nat.zero_le _) hr
      rw [List.drop_zero] at q2
      have e0 : wt ([] : List (List Int)) = 0 := rfl
      have q3 := wt_len acc
      have q4 := wt_len (a.drop i)
      simp only [onSum]
      rw [if_pos (show 0 ≤ (i : Int) ∧ (i : Int) ≤ (a.length : Int) ∧ (a.length : Int) ≤ (a.length : Int) by omega), gcut_from, more_is (k + 1) _ acc (by omega) (by omega) (by omega), Option.bind_some]
/-! .. by the reference. -/
end Go.Proofs.YtakjaafenhdpjaaGreat.ETopAnyBytes
