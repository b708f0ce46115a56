import Derived.Test.YtakjaafenhdpjaaGreatFmtTopAnyBytes
import Derived.Test.YtakjaafenhdpjaaGreatResKit
namespace Go.Proofs.YtakjaafenhdpjaaGreat.ETopAnyBytes
open Go Go.Proofs.YtakjaafenhdpjaaGreat.AE Go.Proofs.YtakjaafenhdpjaaGreat
set_option linter.unusedVariables false
set_option linter.unusedSimpArgs false
/-! Which hunks are a script: what both sides come to. -/
theorem getD_l {α : Type} (l : List α) {i : Nat} (h : i < l.length) (d : α) : l.getD ((i : Nat) : Int).toNat d = l[i] := by
  simp [List.getD, List.getElem?_eq_getElem h]
theorem succ_i {n i : Nat} (h : i < n) (hn : n ≤ 1099511627776) : IntKind.wrap .i64 ((i : Int) + 1) = ((i + 1 : Nat) : Int) := by rw [w64 (by omega) (by omega)]; omega
theorem all_loop (l : List (List Int)) (hl : l.length ≤ 1099511627776) : ∀ (m i : Nat), l.length - i < m → i ≤ l.length →
    iter F70_0 m (l, (l.length : Int), (i : Int)) = some (bif (l.drop i).all (fun t => decide (t.length ≠ 0)) then .inl (l, (l.length : Int), (l.length : Int)) else .inr false)
  | 0, i, h, _ => by omega
  | m + 1, i, hm, hi => by
    show F70_0 (iter F70_0 m) _ = _
    unfold F70_0
    simp only
    by_cases h : i < l.length
    · have hd : l.drop i = l[i] :: l.drop (i + 1) := List.drop_eq_getElem_cons h
      have h2 : (0 ≤ (i : Int) ∧ (i : Int) < (l.length : Int)) := ⟨by omega, by omega⟩
      rw [hd, List.all_cons]
      simp only [decide_eq_true (show (i : Int) < (l.length : Int) by omega), cond_true, if_pos h2, getD_l l h, succ_i h hl]
      by_cases z : l[i].length = 0
      · simp only [decide_eq_true (show ((l[i].length : Nat) : Int) = 0 by omega), cond_true, decide_eq_false (show ¬ l[i].length ≠ 0 by omega), Bool.false_and, cond_false]
      · simp only [decide_eq_false (show ¬ ((l[i].length : Nat) : Int) = 0 by omega), cond_false, decide_eq_true (show l[i].length ≠ 0 by omega), Bool.true_and]
        exact all_loop l hl m (i + 1) (by omega) h
    · obtain rfl : i = l.length := by omega
      simp only [decide_eq_false (show ¬ (l.length : Int) < (l.length : Int) by omega), cond_false, List.drop_length, List.all_nil, cond_true]
theorem all_is (k : Nat) (l : List (List Int)) (hl : l.length ≤ 1099511627776) (hk : l.length < k) : R70 (k + 1) l = some (l.all fun t => decide (t.length ≠ 0)) := by
  rw [u70]
  unfold r70
  have e : J70_0 k k (l, (l.length : Int), 0) = _ := all_loop l hl k 0 (by omega) (by omega)
  rw [List.drop_zero] at e
  simp only [e, Option.bind_some]
  cases l.all fun t => decide (t.length ≠ 0) <;> rfl
def goodB : Int → List Hk → Bool
  | _, [] => true
  | en, h :: s => decide (en < h.1) && (decide (h.1 ≤ 1048576) && (decide (h.2.1.length + h.2.2.length ≠ 0) && ((h.2.1.all fun t => decide (t.length ≠ 0)) && ((h.2.2.all fun t => decide (t.length ≠ 0)) && goodB (h.1 + (h.2.1.length : Int)) s))))
def Lim (B : Nat) (s : List Hk) : Prop := ∀ h ∈ s, h.2.1.length ≤ B ∧ h.2.2.length ≤ B
theorem good_loop (k B : Nat) (s : List Hk) (hs : s.length ≤ 1099511627776) (hB : B ≤ 1099511627776) (hk : B < k) (hl : Lim B s) : ∀ (m i : Nat) (en : Int), s.length - i < m → i ≤ s.length → -1 ≤ en → en ≤ 2199023255552 →
    ∃ en', iter (F32_0 (R70 (k + 1))) m (en, s, (s.length : Int), (i : Int)) = some (bif goodB en (s.drop i) then .inl (en', s, (s.length : Int), (s.length : Int)) else .inr false)
  | 0, i, en, h, _, _, _ => by omega
  | m + 1, i, en, hm, hi, he1, he2 => by
    show ∃ en', F32_0 _ (iter (F32_0 _) m) _ = _
    unfold F32_0
    simp only
    by_cases h : i < s.length
    · have hd : s.drop i = s[i] :: s.drop (i + 1) := List.drop_eq_getElem_cons h
      have h2 : (0 ≤ (i : Int) ∧ (i : Int) < (s.length : Int)) := ⟨by omega, by omega⟩
      have hlim := hl s[i] (List.getElem_mem h)
      rw [hd]
      unfold goodB
      simp only [decide_eq_true (show (i : Int) < (s.length : Int) by omega), cond_true, if_pos h2, getD_l s h, succ_i h hs]
      generalize s[i] = x at *
      by_cases c1 : en < x.1
      · by_cases c2 : x.1 ≤ 1048576
        · have w : IntKind.wrap .i64 ((x.2.1.length : Int) + (x.2.2.length : Int)) = ((x.2.1.length + x.2.2.length : Nat) : Int) := by rw [w64 (by omega) (by omega)]; omega
          have w2 : IntKind.wrap .i64 (x.1 + (x.2.1.length : Int)) = x.1 + (x.2.1.length : Int) := w64 (by omega) (by omega)
          by_cases c3 : x.2.1.length + x.2.2.length = 0
          · refine ⟨0, ?_⟩
            simp only [decide_eq_false (show ¬ x.1 ≤ en by omega), decide_eq_false (show ¬ x.1 > 1048576 by omega), beq_self_eq_true, cond_true, w, decide_eq_true (show ((x.2.1.length + x.2.2.length : Nat) : Int) = 0 by omega), show (true == false) = false from rfl, cond_false,
              decide_eq_true c1, decide_eq_true c2, decide_eq_false (show ¬ (x.2.1.length + x.2.2.length ≠ 0) by omega), Bool.true_and, Bool.false_and]
          · simp only [decide_eq_false (show ¬ x.1 ≤ en by omega), decide_eq_false (show ¬ x.1 > 1048576 by omega), beq_self_eq_true, cond_true, w, decide_eq_false (show ¬ ((x.2.1.length + x.2.2.length : Nat) : Int) = 0 by omega),
              decide_eq_true c1, decide_eq_true c2, decide_eq_true (show x.2.1.length + x.2.2.length ≠ 0 by omega), Bool.true_and, all_is k x.2.1 (by omega) (by omega), all_is k x.2.2 (by omega) (by omega), Option.bind_some]
            cases x.2.1.all fun t => decide (t.length ≠ 0) with
            | false => exact ⟨0, rfl⟩
            | true =>
              simp only [Bool.not_true, beq_self_eq_true, cond_true, Bool.true_and]
              cases x.2.2.all fun t => decide (t.length ≠ 0) with
              | false => exact ⟨0, rfl⟩
              | true =>
                simp only [Bool.not_true, cond_false, Bool.true_and, w2]
                exact good_loop k B s hs hB hk hl m (i + 1) _ (by omega) h (by omega) (by omega)
        · refine ⟨0, ?_⟩
          simp only [decide_eq_false (show ¬ x.1 ≤ en by omega), decide_eq_true (show x.1 > 1048576 by omega), beq_self_eq_true, cond_true, show (true == false) = false from rfl, cond_false, decide_eq_true c1, decide_eq_false c2, Bool.true_and, Bool.false_and]
      · refine ⟨0, ?_⟩
        simp only [decide_eq_true (show x.1 ≤ en by omega), show (true == false) = false from rfl, cond_false, decide_eq_false c1, Bool.false_and]
    · obtain rfl : i = s.length := by omega
      refine ⟨en, ?_⟩
      simp only [decide_eq_false (show ¬ (s.length : Int) < (s.length : Int) by omega), cond_false, List.drop_length, goodB, cond_true]
theorem good_is (k B : Nat) (s : List Hk) (hs : s.length ≤ 1099511627776) (hB : B ≤ 1099511627776) (hk : B < k) (hk2 : s.length < k) (hl : Lim B s) : R32 (k + 2) s = some (goodB (-1) s) := by
  rw [u32]
  unfold r32
  obtain ⟨en, e0⟩ := good_loop k B s hs hB hk hl (k + 1) 0 (-1) (by omega) (by omega) (by omega) (by omega)
  have e : J32_0 (k + 1) (k + 1) (-1, s, (s.length : Int), 0) = _ := e0
  rw [List.drop_zero] at e
  simp only [e, Option.bind_some]
  cases goodB (-1) s <;> rfl
end Go.Proofs.YtakjaafenhdpjaaGreat.ETopAnyBytes
