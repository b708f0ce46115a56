import Derived.Test.YtjidbphhcekelaaGreatPat2PortScripts
namespace Go.Proofs.YtjidbphhcekelaaGreat.EPortScripts
open Go Go.Proofs.YtjidbphhcekelaaGreat.AE Go.Proofs.YtjidbphhcekelaaGreat
set_option linter.unusedVariables false
set_option linter.unusedSimpArgs false
/-! A script done, by the program. -/
theorem swt_cons (h : Hk) (s : List Hk) : swt (h :: s) = 1 + wt h.2.1 + wt h.2.2 + swt s := rfl
theorem swt_drop {s : List Hk} {j : Nat} (h : j < s.length) : swt (s.drop j) = 1 + wt s[j].2.1 + wt s[j].2.2 + swt (s.drop (j + 1)) := by
  rw [List.drop_eq_getElem_cons h]
  rfl
theorem swt_len : ∀ (s : List Hk), s.length ≤ swt s
  | [] => Nat.le_refl _
  | h :: s => by
    have := swt_len s
    rw [swt_cons, List.length_cons]
    omega
theorem swt_lim : ∀ (s : List Hk), Lim (swt s) s
  | [] => fun h hh => by cases hh
  | h :: s => fun g hg => by
    have ih := swt_lim s
    have h1 := wt_len h.2.1
    have h2 := wt_len h.2.2
    rw [swt_cons]
    rcases List.mem_cons.1 hg with rfl | hg
    · omega
    · have := ih g hg
      omega
theorem app_step {a : List (List Int)} {i n : Nat} {o w : List (List Int)} {acc : List (List Int)} {R W : Nat} (hin : i ≤ n) (hW : wt acc + wt (a.drop i) + (1 + wt o + wt w + R) ≤ W) :
    wt ((a.drop i).take (n - i)) ≤ W ∧ wt (acc ++ (a.drop i).take (n - i)) ≤ W ∧ wt (acc ++ (a.drop i).take (n - i) ++ w) + wt (a.drop (n + o.length)) + R ≤ W := by
  have h1 := wt_split (a.drop i) (n - i)
  rw [List.drop_drop, show i + (n - i) = n by omega] at h1
  have h2 := wt_split (a.drop n) o.length
  rw [List.drop_drop] at h2
  have e1 := wt_app acc ((a.drop i).take (n - i))
  have e2 := wt_app (acc ++ (a.drop i).take (n - i)) w
  omega
theorem app_loop (k W : Nat) (a : List (List Int)) (s : List Hk) (hk : W < k) (hW : W ≤ 1099511627776) (hs : s.length ≤ W) (hla : a.length ≤ W) (ha : By a) (hb : ByS s) (hl : Lim W s) :
    ∀ (m j i : Nat) (en : Int) (acc : List (List Int)), s.length - j < m → j ≤ s.length → goodB en (s.drop j) = true → (i : Int) ≤ en + 1 → i ≤ a.length → wt acc + wt (a.drop i) + swt (s.drop j) ≤ W →
    iter (F60_0 (R62 (k + 3)) (R63 (k + 3)) (R111 (k + 3))) m (a, (i : Int), s, (s.length : Int), (j : Int), acc) = some (match appL a (s.drop j) i acc with
      | some (i', acc') => .inl (a, (i' : Int), s, (s.length : Int), (s.length : Int), acc')
      | none => .inr ([], 5))
  | 0, j, i, en, acc, h, _, _, _, _, _ => by omega
  | m + 1, j, i, en, acc, h, hj, hg, hi, hia, hwt => by
    show F60_0 _ _ _ (iter (F60_0 _ _ _) m) _ = _
    unfold F60_0
    simp only
    by_cases hq : j < s.length
    · have hd : s.drop j = s[j] :: s.drop (j + 1) := List.drop_eq_getElem_cons hq
      have h2 : (0 ≤ (j : Int) ∧ (j : Int) < (s.length : Int)) := ⟨by omega, by omega⟩
      rw [hd] at hg
      rw [swt_drop hq] at hwt
      have hbj := hb s[j] (List.getElem_mem hq)
      have hlj := hl s[j] (List.getElem_mem hq)
      simp only [decide_eq_true (show (j : Int) < (s.length : Int) by omega), cond_true, if_pos h2, getD_l s hq, succ_i hq (show s.length ≤ 1099511627776 by omega)]
      rw [hd]
      generalize s[j] = x at *
      obtain ⟨x1, o, w⟩ := x
      unfold goodB at hg
      simp only [Bool.and_eq_true, decide_eq_true_eq] at hg hbj hlj hwt ⊢
      obtain ⟨g1, g2, g3, g4, g5, g6⟩ := hg
      obtain ⟨n, rfl⟩ : ∃ n : Nat, x1 = (n : Int) := ⟨x1.toNat, by omega⟩
      obtain ⟨w1, w2, w3⟩ := app_step (o := o) (w := w) (n := n) (by omega) hwt
      rw [stands_is k a o n (by omega) (by omega) (by omega) ha hbj.1 (by omega), Option.bind_some]
      unfold appL
      simp only [Int.toNat_natCast]
      cases hst : standB a o n with
      | false => rfl
      | true =>
        have hle := stand_le hst
        have hwl := wt_len ((a.drop i).take (n - i))
        have hal := wt_len (acc ++ (a.drop i).take (n - i))
        have hww := wt_len w
        have hac : acc.length ≤ W := by have := wt_len acc; omega
        have hww2 : wt w ≤ W := by omega
        simp only [Bool.not_true, cond_false, if_true]
        rw [if_pos (show 0 ≤ (i : Int) ∧ (i : Int) ≤ (n : Int) ∧ (n : Int) ≤ (a.length : Int) by omega), gcut_mid]
        rw [more_is (k + 1) _ acc (by omega) (by omega) (by omega), Option.bind_some, more_is (k + 1) w _ (by omega) (by omega) (by omega), Option.bind_some]
        rw [w64 (show -9223372036854775808 ≤ (n : Int) + (o.length : Int) by omega) (by omega), show (n : Int) + (o.length : Int) = ((n + o.length : Nat) : Int) by omega]
        exact app_loop k W a s hk hW hs hla ha hb hl m (j + 1) (n + o.length) ((n : Int) + (o.length : Int)) _ (by omega) hq g6 (by omega) hle w3
    · obtain rfl : j = s.length := by omega
      simp only [decide_eq_false (show ¬ (s.length : Int) < (s.length : Int) by omega), cond_false, List.drop_length]
      rfl
def resA (a : List (List Int)) (s : List Hk) : List (List Int) × Int := if goodB (-1) s then (match appL a s 0 [] with | some (i, acc) => (acc ++ a.drop i, 0) | none => ([], 5)) else ([], 1)
theorem appL_wt (a : List (List Int)) : ∀ (s : List Hk) (i : Nat) (en : Int) (acc acc' : List (List Int)) (i' : Nat), goodB en s = true → (i : Int) ≤ en + 1 → i ≤ a.length → appL a s i acc = some (i', acc') → i' ≤ a.length ∧ wt acc' + wt (a.drop i') ≤ wt acc + wt (a.drop i) + swt s
  | [], i, en, acc, acc', i', _, _, hia, h => by
    cases h
    exact ⟨hia, by simp [swt]⟩
  | h :: s, i, en, acc, acc', i', hg, hi, hia, hr => by
    unfold goodB at hg
    simp only [Bool.and_eq_true, decide_eq_true_eq] at hg
    unfold appL at hr
    split at hr
    · rename_i hs
      obtain ⟨i1, ih⟩ := appL_wt a s _ (h.1 + (h.2.1.length : Int)) _ _ _ hg.2.2.2.2.2 (by omega) (stand_le hs) hr
      refine ⟨i1, ?_⟩
      have h1 := (app_step (a := a) (i := i) (n := h.1.toNat) (o := h.2.1) (w := h.2.2) (acc := acc) (R := swt s) (W := wt acc + wt (a.drop i) + swt (h :: s)) (by omega) (by rw [swt_cons]; omega)).2.2
      rw [swt_cons] at h1 ⊢
      omega
    · cases hr
theorem resA_wt (a : List (List Int)) (s : List Hk) : wt (resA a s).1 ≤ wt a + swt s := by
  unfold resA
  split
  · rename_i hg
    cases h : appL a s 0 [] with
    | none => exact Nat.zero_le _
    | some p =>
      obtain ⟨i, acc⟩ := p
      have := (appL_wt a s 0 (-1) [] acc i hg (by omega) (Nat.zero_le _) h).2
      rw [List.drop_zero] at this
      show wt (acc ++ a.drop i) ≤ _
      rw [wt_app]
      have e : wt ([] : List (List Int)) = 0 := rfl
      omega
  · exact Nat.zero_le _
theorem Apply_is (k : Nat) (a : List (List Int)) (s : List Hk) (hk : wt a + swt s < k) (hW : wt a + swt s ≤ 1099511627776) (ha : By a) (hb : ByS s) :
    R60 (k + 4) s a = some (resA a s) := by
  have h1 := swt_len s
  have h2 := (wt_len a).1
  have hl : Lim (wt a + swt s) s := fun h hh => by have := swt_lim s h hh; omega
  rw [u60]
  unfold r60 resA
  rw [good_is (k + 1) (wt a + swt s) s (by omega) (by omega) (by omega) (by omega) hl, Option.bind_some]
  cases hg : goodB (-1) s with
  | false => rfl
  | true =>
    have e : J60_0 (k + 3) (k + 3) (a, 0, s, (s.length : Int), 0, []) = _ := app_loop k (wt a + swt s) a s hk hW (by omega) (by omega) ha hb hl (k + 3) 0 0 (-1) [] (by omega) (Nat.zero_le _) (by rw [List.drop_zero]; exact hg) (by omega) (Nat.zero_le _) (by rw [List.drop_zero, List.drop_zero]; show 0 + _ + _ ≤ _; omega)
    rw [List.drop_zero] at e
    simp only [Bool.not_true, cond_false, e, Option.bind_some, if_true]
    cases hr : appL a s 0 [] with
    | none => rfl
    | some p =>
      obtain ⟨i, acc⟩ := p
      obtain ⟨q1, q2⟩ := appL_wt a s 0 (-1) [] acc i hg (by omega) (Nat.zero_le _) hr
      rw [List.drop_zero] at q2
      have e0 : wt ([] : List (List Int)) = 0 := rfl
      have q3 := wt_len acc
      have q4 := wt_len (a.drop i)
      simp only [onSum]
      rw [if_pos (show 0 ≤ (i : Int) ∧ (i : Int) ≤ (a.length : Int) ∧ (a.length : Int) ≤ (a.length : Int) by omega), gcut_from, more_is (k + 1) _ acc (by omega) (by omega) (by omega), Option.bind_some]
/-! .. by the reference. -/
theorem rcmp_loop (k : Nat) (a : List (List Int)) (s : List Hk) (i j : Int) (out : List (List Int)) (n : Nat) (o w : List (List Int)) (hlen : n + o.length ≤ a.length) (hla : a.length ≤ 1099511627776) (ha : By a) (ho : By o) : ∀ (m x : Nat), o.length - x < m → x ≤ o.length →
    iter (F25_0 (R68 k)) m (s, a, i, j, (x : Int), out, ((n : Int), (o, w))) = some (bif decide (((a.drop n).take o.length).drop x = o.drop x) then .inl (s, a, i, j, (o.length : Int), out, ((n : Int), (o, w))) else .inr ([], 5))
  | 0, x, h, _ => by omega
  | m + 1, x, h, hx => by
    show F25_0 _ (iter (F25_0 _) m) _ = _
    unfold F25_0
    simp only
    have hlt : ((a.drop n).take o.length).length = o.length := by rw [List.length_take, List.length_drop]; omega
    by_cases hq : x < o.length
    · have hq2 : n + x < a.length := by omega
      have hq3 : x < ((a.drop n).take o.length).length := by omega
      have hd : o.drop x = o[x] :: o.drop (x + 1) := List.drop_eq_getElem_cons hq
      have hd2 : ((a.drop n).take o.length).drop x = ((a.drop n).take o.length)[x] :: ((a.drop n).take o.length).drop (x + 1) := List.drop_eq_getElem_cons hq3
      have hv : ((a.drop n).take o.length)[x] = a[n + x] := by rw [List.getElem_take, List.getElem_drop]
      have h2 : (0 ≤ (x : Int) ∧ (x : Int) < (o.length : Int)) := ⟨by omega, by omega⟩
      have w1 : IntKind.wrap .i64 ((n : Int) + (x : Int)) = ((n + x : Nat) : Int) := by rw [w64 (by omega) (by omega)]; omega
      have h3 : (0 ≤ ((n + x : Nat) : Int) ∧ ((n + x : Nat) : Int) < (a.length : Int)) := ⟨by omega, by omega⟩
      simp only [decide_eq_true (show (x : Int) < (o.length : Int) by omega), cond_true, w1, if_pos h2, if_pos h3, getD_l a hq2, getD_l o hq, succ_i hq (show o.length ≤ 1099511627776 by omega), strEq_bytes (ha _ (List.getElem_mem hq2)) (ho _ (List.getElem_mem hq))]
      rw [hd, hd2, hv]
      by_cases c : a[n + x] = o[x]
      · simp only [decide_eq_true c, Bool.not_true, cond_false]
        refine (rcmp_loop k a s i j out n o w hlen hla ha ho m (x + 1) (by omega) hq).trans ?_
        have : (a[n + x] :: ((a.drop n).take o.length).drop (x + 1) = o[x] :: o.drop (x + 1)) ↔ ((a.drop n).take o.length).drop (x + 1) = o.drop (x + 1) := ⟨fun h => (List.cons.inj h).2, fun h => by rw [c, h]⟩
        rw [decide_eq_decide.2 this]
      · simp only [decide_eq_false c, Bool.not_false, cond_true]
        rw [decide_eq_false (show ¬ (a[n + x] :: ((a.drop n).take o.length).drop (x + 1) = o[x] :: o.drop (x + 1)) from fun h => c (List.cons.inj h).1), cond_false]
    · obtain rfl : x = o.length := by omega
      rw [decide_eq_false (show ¬ (o.length : Int) < (o.length : Int) by omega), cond_false, List.drop_length, List.drop_of_length_le (by omega), decide_eq_true rfl, cond_true]
theorem rapp_loop (k W : Nat) (a : List (List Int)) (s : List Hk) (hk : W < k) (hW : W ≤ 1099511627776) (hs : s.length ≤ W) (hla : a.length ≤ W) (ha : By a) (hb : ByS s) (hl : Lim W s) :
    ∀ (m j i : Nat) (en : Int) (acc : List (List Int)), s.length - j < m → j ≤ s.length → goodB en (s.drop j) = true → (i : Int) ≤ en + 1 → i ≤ a.length → wt acc + wt (a.drop i) + swt (s.drop j) ≤ W →
    iter (F25_1 (R68 k) (J25_0 k k)) m (s, a, (i : Int), (j : Int), acc) = some (match appL a (s.drop j) i acc with
      | some (i', acc') => .inl (s, a, (i' : Int), (s.length : Int), acc')
      | none => .inr ([], 5))
  | 0, j, i, en, acc, h, _, _, _, _, _ => by omega
  | m + 1, j, i, en, acc, h, hj, hg, hi, hia, hwt => by
    show F25_1 _ _ (iter (F25_1 _ _) m) _ = _
    unfold F25_1
    simp only
    by_cases hq : j < s.length
    · have hd : s.drop j = s[j] :: s.drop (j + 1) := List.drop_eq_getElem_cons hq
      have h2 : (0 ≤ (j : Int) ∧ (j : Int) < (s.length : Int)) := ⟨by omega, by omega⟩
      rw [hd] at hg
      rw [swt_drop hq] at hwt
      have hbj := hb s[j] (List.getElem_mem hq)
      have hlj := hl s[j] (List.getElem_mem hq)
      simp only [decide_eq_true (show (j : Int) < (s.length : Int) by omega), cond_true, if_pos h2, getD_l s hq]
      rw [hd]
      have sj := succ_i hq (show s.length ≤ 1099511627776 by omega)
      generalize s[j] = x at *
      obtain ⟨x1, o, w⟩ := x
      unfold goodB at hg
      simp only [Bool.and_eq_true, decide_eq_true_eq] at hg hbj hlj hwt ⊢
      obtain ⟨g1, g2, g3, g4, g5, g6⟩ := hg
      obtain ⟨n, rfl⟩ : ∃ n : Nat, x1 = (n : Int) := ⟨x1.toNat, by omega⟩
      obtain ⟨w1, w2, w3⟩ := app_step (o := o) (w := w) (n := n) (by omega) hwt
      unfold appL standB
      simp only [Int.toNat_natCast]
      by_cases c1 : n ≤ a.length
      · rw [decide_eq_false (show ¬ (n : Int) > (a.length : Int) by omega), beq_self_eq_true, cond_true, w64 (show -9223372036854775808 ≤ (a.length : Int) - (n : Int) by omega) (by omega)]
        by_cases c2 : n + o.length ≤ a.length
        · rw [decide_eq_false (show ¬ (o.length : Int) > (a.length : Int) - (n : Int) by omega), cond_false, decide_eq_true c2, Bool.true_and]
          have e0 : J25_0 k k (s, a, (i : Int), (j : Int), 0, acc, ((n : Int), (o, w))) = _ := rcmp_loop k a s i j acc n o w c2 (by omega) ha hbj.1 k 0 (by omega) (Nat.zero_le _)
          rw [List.drop_zero, List.drop_zero] at e0
          simp only [e0, Option.bind_some]
          by_cases c3 : (a.drop n).take o.length = o
          · have hal := wt_len (acc ++ (a.drop i).take (n - i))
            have hww := wt_len w
            have hww2 : wt w ≤ W := by omega
            rw [List.length_append] at hal
            simp only [decide_eq_true c3, cond_true, onSum, if_true]
            rw [if_pos (show 0 ≤ (i : Int) ∧ (i : Int) ≤ (n : Int) ∧ (n : Int) ≤ (a.length : Int) by omega), gcut_mid, if_pos (by omega), if_pos (by rw [List.length_append]; omega)]
            rw [w64 (show -9223372036854775808 ≤ (n : Int) + (o.length : Int) by omega) (by omega), show (n : Int) + (o.length : Int) = ((n + o.length : Nat) : Int) by omega, sj]
            exact rapp_loop k W a s hk hW hs hla ha hb hl m (j + 1) (n + o.length) ((n : Int) + (o.length : Int)) _ (by omega) hq g6 (by omega) c2 w3
          · simp only [decide_eq_false c3, cond_false, onSum, Bool.false_eq_true, if_false]
        · rw [decide_eq_true (show (o.length : Int) > (a.length : Int) - (n : Int) by omega), cond_true, decide_eq_false c2]
          rfl
      · rw [decide_eq_true (show (n : Int) > (a.length : Int) by omega), decide_eq_false (show ¬ n + o.length ≤ a.length by omega)]
        rfl
    · obtain rfl : j = s.length := by omega
      simp only [decide_eq_false (show ¬ (s.length : Int) < (s.length : Int) by omega), cond_false, List.drop_length]
      rfl
theorem RefApply_is (k : Nat) (a : List (List Int)) (s : List Hk) (hk : wt a + swt s < k) (hW : wt a + swt s ≤ 1099511627776) (ha : By a) (hb : ByS s) (hat : ∀ h ∈ s, -9223372036854775808 ≤ h.1 ∧ h.1 ≤ 9223372036854775807) :
    R25 (k + 2) s a = some (resA a s) := by
  have h1 := swt_len s
  have h2 := (wt_len a).1
  have hl : Lim (wt a + swt s) s := fun h hh => by have := swt_lim s h hh; omega
  rw [u25]
  unfold r25 resA
  rw [rgood_is k (wt a + swt s) s (by omega) (by omega) (by omega) (by omega) hl hat, Option.bind_some]
  cases hg : goodB (-1) s with
  | false => rfl
  | true =>
    have e : J25_1 (k + 1) (k + 1) (s, a, 0, 0, []) = _ := rapp_loop (k + 1) (wt a + swt s) a s (by omega) hW (by omega) (by omega) ha hb hl (k + 1) 0 0 (-1) [] (by omega) (Nat.zero_le _) (by rw [List.drop_zero]; exact hg) (by omega) (Nat.zero_le _) (by rw [List.drop_zero, List.drop_zero]; show 0 + _ + _ ≤ _; omega)
    rw [List.drop_zero] at e
    simp only [Bool.not_true, cond_false, e, Option.bind_some, if_true]
    cases hr : appL a s 0 [] with
    | none => rfl
    | some p =>
      obtain ⟨i, acc⟩ := p
      obtain ⟨q1, q2⟩ := appL_wt a s 0 (-1) [] acc i hg (by omega) (Nat.zero_le _) hr
      rw [List.drop_zero] at q2
      have e0 : wt ([] : List (List Int)) = 0 := rfl
      have q3 := wt_len acc
      have q4 := wt_len (a.drop i)
      simp only [onSum]
      rw [if_pos (show 0 ≤ (i : Int) ∧ (i : Int) ≤ (a.length : Int) ∧ (a.length : Int) ≤ (a.length : Int) by omega), gcut_from, if_pos (by omega)]
end Go.Proofs.YtjidbphhcekelaaGreat.EPortScripts
