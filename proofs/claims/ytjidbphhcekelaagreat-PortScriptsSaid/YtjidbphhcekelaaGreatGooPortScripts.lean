import Derived.Test.YtjidbphhcekelaaGreatFmtPortScripts
import Derived.Test.YtjidbphhcekelaaGreatResKit
namespace Go.Proofs.YtjidbphhcekelaaGreat.EPortScripts
open Go Go.Proofs.YtjidbphhcekelaaGreat.AE Go.Proofs.YtjidbphhcekelaaGreat
set_option linter.unusedVariables false
set_option linter.unusedSimpArgs false
/-! Which hunks are a script: what both sides come to. -/
theorem getD_l {α : Type} (l : List α) {i : Nat} (h : i < l.length) (d : α) : l.getD ((i : Nat) : Int).toNat d = l[i] := by
  simp [List.getD, List.getElem?_eq_getElem h]
theorem succ_i {n i : Nat} (h : i < n) (hn : n ≤ 1099511627776) : IntKind.wrap .i64 ((i : Int) + 1) = ((i + 1 : Nat) : Int) := by rw [w64 (by omega) (by omega)]; omega
theorem all_loop (l : List (List Int)) (hl : l.length ≤ 1099511627776) : ∀ (m i : Nat), l.length - i < m → i ≤ l.length →
    iter F112_0 m (l, (l.length : Int), (i : Int)) = some (bif (l.drop i).all (fun t => decide (t.length ≠ 0)) then .inl (l, (l.length : Int), (l.length : Int)) else .inr false)
  | 0, i, h, _ => by omega
  | m + 1, i, hm, hi => by
    show F112_0 (iter F112_0 m) _ = _
    unfold F112_0
    simp only
    by_cases h : i < l.length
    · have hd : l.drop i = l[i] :: l.drop (i + 1) := List.drop_eq_getElem_cons h
      have h2 : (0 ≤ (i : Int) ∧ (i : Int) < (l.length : Int)) := ⟨by omega, by omega⟩
      rw [hd, List.all_cons]
      simp only [decide_eq_true (show (i : Int) < (l.length : Int) by omega), cond_true, if_pos h2, getD_l l h, succ_i h hl]
      by_cases z : l[i].length = 0
      · simp only [decide_eq_true (show ((l[i].length : Nat) : Int) = 0 by omega), cond_true, decide_eq_false (show ¬ l[i].length ≠ 0 by omega), Bool.false_and, cond_false]
      · simp only [decide_eq_false (show ¬ ((l[i].length : Nat) : Int) = 0 by omega), cond_false, decide_eq_true (show l[i].length ≠ 0 by omega), Bool.true_and]
        exact all_loop l hl m (i + 1) (by omega) h
    · obtain rfl : i = l.length := by omega
      simp only [decide_eq_false (show ¬ (l.length : Int) < (l.length : Int) by omega), cond_false, List.drop_length, List.all_nil, cond_true]
theorem all_is (k : Nat) (l : List (List Int)) (hl : l.length ≤ 1099511627776) (hk : l.length < k) : R112 (k + 1) l = some (l.all fun t => decide (t.length ≠ 0)) := by
  rw [u112]
  unfold r112
  have e : J112_0 k k (l, (l.length : Int), 0) = _ := all_loop l hl k 0 (by omega) (by omega)
  rw [List.drop_zero] at e
  simp only [e, Option.bind_some]
  cases l.all fun t => decide (t.length ≠ 0) <;> rfl
def goodB : Int → List Hk → Bool
  | _, [] => true
  | en, h :: s => decide (en < h.1) && (decide (h.1 ≤ 1048576) && (decide (h.2.1.length + h.2.2.length ≠ 0) && ((h.2.1.all fun t => decide (t.length ≠ 0)) && ((h.2.2.all fun t => decide (t.length ≠ 0)) && goodB (h.1 + (h.2.1.length : Int)) s))))
def Lim (B : Nat) (s : List Hk) : Prop := ∀ h ∈ s, h.2.1.length ≤ B ∧ h.2.2.length ≤ B
theorem good_loop (k B : Nat) (s : List Hk) (hs : s.length ≤ 1099511627776) (hB : B ≤ 1099511627776) (hk : B < k) (hl : Lim B s) : ∀ (m i : Nat) (en : Int), s.length - i < m → i ≤ s.length → -1 ≤ en → en ≤ 2199023255552 →
    ∃ en', iter (F62_0 (R112 (k + 1))) m (en, s, (s.length : Int), (i : Int)) = some (bif goodB en (s.drop i) then .inl (en', s, (s.length : Int), (s.length : Int)) else .inr false)
  | 0, i, en, h, _, _, _ => by omega
  | m + 1, i, en, hm, hi, he1, he2 => by
    show ∃ en', F62_0 _ (iter (F62_0 _) m) _ = _
    unfold F62_0
    simp only
    by_cases h : i < s.length
    · have hd : s.drop i = s[i] :: s.drop (i + 1) := List.drop_eq_getElem_cons h
      have h2 : (0 ≤ (i : Int) ∧ (i : Int) < (s.length : Int)) := ⟨by omega, by omega⟩
      have hlim := hl s[i] (List.getElem_mem h)
      rw [hd]
      unfold goodB
      simp only [decide_eq_true (show (i : Int) < (s.length : Int) by omega), cond_true, if_pos h2, getD_l s h, succ_i h hs]
      generalize s[i] = x at *
      by_cases c1 : en < x.1
      · by_cases c2 : x.1 ≤ 1048576
        · have w : IntKind.wrap .i64 ((x.2.1.length : Int) + (x.2.2.length : Int)) = ((x.2.1.length + x.2.2.length : Nat) : Int) := by rw [w64 (by omega) (by omega)]; omega
          have w2 : IntKind.wrap .i64 (x.1 + (x.2.1.length : Int)) = x.1 + (x.2.1.length : Int) := w64 (by omega) (by omega)
          by_cases c3 : x.2.1.length + x.2.2.length = 0
          · refine ⟨0, ?_⟩
            simp only [decide_eq_false (show ¬ x.1 ≤ en by omega), decide_eq_false (show ¬ x.1 > 1048576 by omega), beq_self_eq_true, cond_true, w, decide_eq_true (show ((x.2.1.length + x.2.2.length : Nat) : Int) = 0 by omega), show (true == false) = false from rfl, cond_false,
              decide_eq_true c1, decide_eq_true c2, decide_eq_false (show ¬ (x.2.1.length + x.2.2.length ≠ 0) by omega), Bool.true_and, Bool.false_and]
          · simp only [decide_eq_false (show ¬ x.1 ≤ en by omega), decide_eq_false (show ¬ x.1 > 1048576 by omega), beq_self_eq_true, cond_true, w, decide_eq_false (show ¬ ((x.2.1.length + x.2.2.length : Nat) : Int) = 0 by omega),
              decide_eq_true c1, decide_eq_true c2, decide_eq_true (show x.2.1.length + x.2.2.length ≠ 0 by omega), Bool.true_and, all_is k x.2.1 (by omega) (by omega), all_is k x.2.2 (by omega) (by omega), Option.bind_some]
            cases x.2.1.all fun t => decide (t.length ≠ 0) with
            | false => exact ⟨0, rfl⟩
            | true =>
              simp only [Bool.not_true, beq_self_eq_true, cond_true, Bool.true_and]
              cases x.2.2.all fun t => decide (t.length ≠ 0) with
              | false => exact ⟨0, rfl⟩
              | true =>
                simp only [Bool.not_true, cond_false, Bool.true_and, w2]
                exact good_loop k B s hs hB hk hl m (i + 1) _ (by omega) h (by omega) (by omega)
        · refine ⟨0, ?_⟩
          simp only [decide_eq_false (show ¬ x.1 ≤ en by omega), decide_eq_true (show x.1 > 1048576 by omega), beq_self_eq_true, cond_true, show (true == false) = false from rfl, cond_false, decide_eq_true c1, decide_eq_false c2, Bool.true_and, Bool.false_and]
      · refine ⟨0, ?_⟩
        simp only [decide_eq_true (show x.1 ≤ en by omega), show (true == false) = false from rfl, cond_false, decide_eq_false c1, Bool.false_and]
    · obtain rfl : i = s.length := by omega
      refine ⟨en, ?_⟩
      simp only [decide_eq_false (show ¬ (s.length : Int) < (s.length : Int) by omega), cond_false, List.drop_length, goodB, cond_true]
theorem good_is (k B : Nat) (s : List Hk) (hs : s.length ≤ 1099511627776) (hB : B ≤ 1099511627776) (hk : B < k) (hk2 : s.length < k) (hl : Lim B s) : R62 (k + 2) s = some (goodB (-1) s) := by
  rw [u62]
  unfold r62
  obtain ⟨en, e0⟩ := good_loop k B s hs hB hk hl (k + 1) 0 (-1) (by omega) (by omega) (by omega) (by omega)
  have e : J62_0 (k + 1) (k + 1) (-1, s, (s.length : Int), 0) = _ := e0
  rw [List.drop_zero] at e
  simp only [e, Option.bind_some]
  cases goodB (-1) s <;> rfl
theorem rall1 (s : List Hk) (i : Int) (h : Hk) (hl : h.2.1.length ≤ 1099511627776) : ∀ (m j : Nat), h.2.1.length - j < m → j ≤ h.2.1.length →
    iter F68_1 m (s, i, (j : Int), h) = some (bif (h.2.1.drop j).all (fun t => decide (t.length ≠ 0)) then .inl (s, i, (h.2.1.length : Int), h) else .inr false)
  | 0, j, hm, _ => by omega
  | m + 1, j, hm, hj => by
    show F68_1 (iter F68_1 m) _ = _
    unfold F68_1
    simp only
    by_cases c : j < h.2.1.length
    · have hd : h.2.1.drop j = h.2.1[j] :: h.2.1.drop (j + 1) := List.drop_eq_getElem_cons c
      have ih := rall1 s i h hl m (j + 1) (by omega) c
      rw [hd, List.all_cons, decide_eq_true (show (j : Int) < (h.2.1.length : Int) by omega), cond_true, if_pos ⟨by omega, by omega⟩, getD_l h.2.1 c, succ_i c hl]
      by_cases z : h.2.1[j].length = 0
      · rw [decide_eq_true (show ((h.2.1[j].length : Nat) : Int) = 0 by omega), decide_eq_false (show ¬ h.2.1[j].length ≠ 0 by omega)]
        rfl
      · rw [decide_eq_false (show ¬ ((h.2.1[j].length : Nat) : Int) = 0 by omega), decide_eq_true (show h.2.1[j].length ≠ 0 by omega), Bool.true_and]
        exact ih
    · obtain rfl : j = h.2.1.length := by omega
      rw [decide_eq_false (show ¬ (h.2.1.length : Int) < (h.2.1.length : Int) by omega), List.drop_length]
      rfl
theorem rall2 (s : List Hk) (i : Int) (h : Hk) (hl : h.2.2.length ≤ 1099511627776) : ∀ (m j : Nat), h.2.2.length - j < m → j ≤ h.2.2.length →
    iter F68_2 m (s, i, (j : Int), h) = some (bif (h.2.2.drop j).all (fun t => decide (t.length ≠ 0)) then .inl (s, i, (h.2.2.length : Int), h) else .inr false)
  | 0, j, hm, _ => by omega
  | m + 1, j, hm, hj => by
    show F68_2 (iter F68_2 m) _ = _
    unfold F68_2
    simp only
    by_cases c : j < h.2.2.length
    · have hd : h.2.2.drop j = h.2.2[j] :: h.2.2.drop (j + 1) := List.drop_eq_getElem_cons c
      have ih := rall2 s i h hl m (j + 1) (by omega) c
      rw [hd, List.all_cons, decide_eq_true (show (j : Int) < (h.2.2.length : Int) by omega), cond_true, if_pos ⟨by omega, by omega⟩, getD_l h.2.2 c, succ_i c hl]
      by_cases z : h.2.2[j].length = 0
      · rw [decide_eq_true (show ((h.2.2[j].length : Nat) : Int) = 0 by omega), decide_eq_false (show ¬ h.2.2[j].length ≠ 0 by omega)]
        rfl
      · rw [decide_eq_false (show ¬ ((h.2.2[j].length : Nat) : Int) = 0 by omega), decide_eq_true (show h.2.2[j].length ≠ 0 by omega), Bool.true_and]
        exact ih
    · obtain rfl : j = h.2.2.length := by omega
      rw [decide_eq_false (show ¬ (h.2.2.length : Int) < (h.2.2.length : Int) by omega), List.drop_length]
      rfl
theorem rgood_loop (k B : Nat) (s : List Hk) (hs : s.length ≤ 1099511627776) (hB : B ≤ 1099511627776) (hk : B < k) (hl : Lim B s) (hat : ∀ h ∈ s, -9223372036854775808 ≤ h.1 ∧ h.1 ≤ 9223372036854775807) : ∀ (m i : Nat) (en : Int), s.length - i < m → i ≤ s.length →
    ((i = 0 ∧ en = -1) ∨ ∃ j p, i = j + 1 ∧ s[j]? = some p ∧ 0 ≤ p.1 ∧ p.1 ≤ 1048576 ∧ en = p.1 + (p.2.1.length : Int)) →
    iter (F68_0 (iter F68_1 k) (iter F68_2 k)) m (s, (i : Int)) = some (bif goodB en (s.drop i) then .inl (s, (s.length : Int)) else .inr false)
  | 0, i, en, h, _, _ => by omega
  | m + 1, i, en, hm, hi, hen => by
    show F68_0 _ _ (iter (F68_0 _ _) m) _ = _
    unfold F68_0
    simp only
    by_cases h : i < s.length
    · have hd : s.drop i = s[i] :: s.drop (i + 1) := List.drop_eq_getElem_cons h
      have h2 : (0 ≤ (i : Int) ∧ (i : Int) < (s.length : Int)) := ⟨by omega, by omega⟩
      have hlim := hl s[i] (List.getElem_mem h)
      have hati := hat s[i] (List.getElem_mem h)
      have hsi : s[i]? = some s[i] := List.getElem?_eq_getElem h
      rw [hd]
      unfold goodB
      rw [decide_eq_true (show (i : Int) < (s.length : Int) by omega), cond_true, if_pos h2, getD_l s h]
      generalize hx : s[i] = x at *
      have fin : ∀ (en2 : Int), 0 ≤ x.1 → x.1 ≤ 1048576 → en2 = x.1 + (x.2.1.length : Int) → iter (F68_0 (iter F68_1 k) (iter F68_2 k)) m (s, ((i + 1 : Nat) : Int)) = some (bif goodB en2 (s.drop (i + 1)) then .inl (s, (s.length : Int)) else .inr false) := fun en2 g1 g2 g3 =>
        rgood_loop k B s hs hB hk hl hat m (i + 1) en2 (by omega) h (.inr ⟨i, x, rfl, hsi, g1, g2, g3⟩)
      have tail : 0 ≤ x.1 → x.1 ≤ 1048576 → Option.bind (iter F68_1 k (s, (i : Int), 0, x)) (fun s21 => onSum s21 (fun y22 =>
            Option.bind (iter F68_2 k (y22.1, y22.2.1, (0 : Int), y22.2.2.2)) fun s31 => onSum s31 (fun y32 =>
            iter (F68_0 (iter F68_1 k) (iter F68_2 k)) m (y32.1, IntKind.wrap .i64 (y32.2.1 + (1 : Int)))) (fun o40 => some (.inr o40))) (fun o30 => some (.inr o30))) =
          some (bif (x.2.1.all fun t => decide (t.length ≠ 0)) && ((x.2.2.all fun t => decide (t.length ≠ 0)) && goodB (x.1 + (x.2.1.length : Int)) (s.drop (i + 1))) then .inl (s, (s.length : Int)) else .inr false) := by
        intro g1 g2
        have a1 : iter F68_1 k (s, (i : Int), 0, x) = _ := rall1 s (i : Int) x (by omega) k 0 (by omega) (by omega)
        have a2 : iter F68_2 k (s, (i : Int), 0, x) = _ := rall2 s (i : Int) x (by omega) k 0 (by omega) (by omega)
        rw [List.drop_zero] at a1 a2
        rw [a1, Option.bind_some]
        cases x.2.1.all fun t => decide (t.length ≠ 0) with
        | false => rfl
        | true =>
          simp only [cond_true, onSum, Bool.true_and]
          rw [a2, Option.bind_some]
          cases x.2.2.all fun t => decide (t.length ≠ 0) with
          | false => rfl
          | true =>
            simp only [cond_true, onSum, Bool.true_and]
            rw [succ_i h hs]
            exact fin _ g1 g2 rfl
      have en1 : -1 ≤ en := by
        rcases hen with ⟨_, rfl⟩ | ⟨j, p, _, _, q1, _, rfl⟩ <;> omega
      have w : IntKind.wrap .i64 ((x.2.1.length : Int) + (x.2.2.length : Int)) = ((x.2.1.length + x.2.2.length : Nat) : Int) := by rw [w64 (by omega) (by omega)]; omega
      by_cases c0 : x.1 < 0
      · rw [decide_eq_true c0, decide_eq_false (show ¬ en < x.1 by omega)]
        rfl
      · rw [decide_eq_false c0]
        by_cases c2 : x.1 ≤ 1048576
        · rw [decide_eq_false (show ¬ x.1 > 1048576 by omega), w]
          by_cases c3 : x.2.1.length + x.2.2.length = 0
          · rw [decide_eq_true (show ((x.2.1.length + x.2.2.length : Nat) : Int) = 0 by omega), decide_eq_false (show ¬ (x.2.1.length + x.2.2.length ≠ 0) by omega)]
            simp
          · rw [decide_eq_false (show ¬ ((x.2.1.length + x.2.2.length : Nat) : Int) = 0 by omega), decide_eq_true (show x.2.1.length + x.2.2.length ≠ 0 by omega), decide_eq_true c2, Bool.true_and, Bool.true_and]
            have t := tail (by omega) c2
            rcases hen with ⟨rfl, rfl⟩ | ⟨j, p, rfl, hp, q1, q2, rfl⟩
            · rw [decide_eq_false (show ¬ ((0 : Nat) : Int) > 0 by omega), decide_eq_true (show -1 < x.1 by omega), Bool.true_and]
              exact t
            · have hj : j < s.length := by omega
              have ej : s[j] = p := by rw [List.getElem?_eq_getElem hj] at hp; exact Option.some.inj hp
              have wj : IntKind.wrap .i64 (((j + 1 : Nat) : Int) - 1) = (j : Int) := by rw [w64 (by omega) (by omega)]; omega
              have hpl := hl p (by rw [← ej]; exact List.getElem_mem hj)
              rw [decide_eq_true (show ((j + 1 : Nat) : Int) > 0 by omega), wj, if_pos (show 0 ≤ (j : Int) ∧ (j : Int) < (s.length : Int) by omega), if_pos (show 0 ≤ (j : Int) ∧ (j : Int) < (s.length : Int) by omega), getD_l s hj, ej]
              have wd : IntKind.wrap .i64 (x.1 - p.1) = x.1 - p.1 := w64 (by omega) (by omega)
              rw [wd]
              by_cases c1 : p.1 + (p.2.1.length : Int) < x.1
              · rw [decide_eq_false (show ¬ x.1 - p.1 ≤ (p.2.1.length : Int) by omega), decide_eq_true c1, Bool.true_and]
                exact t
              · rw [decide_eq_true (show x.1 - p.1 ≤ (p.2.1.length : Int) by omega), decide_eq_false c1]
                rfl
        · rw [decide_eq_true (show x.1 > 1048576 by omega), decide_eq_false c2]
          simp
    · obtain rfl : i = s.length := by omega
      rw [decide_eq_false (show ¬ (s.length : Int) < (s.length : Int) by omega), List.drop_length]
      rfl
theorem rgood_is (k B : Nat) (s : List Hk) (hs : s.length ≤ 1099511627776) (hB : B ≤ 1099511627776) (hk : B < k) (hk2 : s.length < k) (hl : Lim B s) (hat : ∀ h ∈ s, -9223372036854775808 ≤ h.1 ∧ h.1 ≤ 9223372036854775807) : R68 (k + 1) s = some (goodB (-1) s) := by
  rw [u68]
  unfold r68
  have e : J68_0 k k (s, 0) = _ := rgood_loop k B s hs hB hk hl hat k 0 (-1) (by omega) (by omega) (.inl ⟨rfl, rfl⟩)
  rw [List.drop_zero] at e
  rw [e, Option.bind_some]
  cases goodB (-1) s <;> rfl
end Go.Proofs.YtjidbphhcekelaaGreat.EPortScripts
