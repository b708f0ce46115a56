import Derived.Test.YtdhbnblpkodhjaaDoorFmtCodedWrites
namespace Go.Proofs.YtdhbnblpkodhjaaDoor.ECodedWrites
open Go Go.Proofs.YtdhbnblpkodhjaaDoor.AE Go.Proofs.YtdhbnblpkodhjaaDoor
set_option linter.unusedVariables false
set_option linter.unusedSimpArgs false
/-! Is a script small? -/
theorem getD_m {α : Type} (l : List α) {i : Nat} (h : i < l.length) (d : α) : l.getD ((i : Nat) : Int).toNat d = l[i] := by
  simp [List.getD, List.getElem?_eq_getElem h]
theorem succ_m {n i : Nat} (h : i < n) (hn : n ≤ 1099511627776) : IntKind.wrap .i64 ((i : Int) + 1) = ((i + 1 : Nat) : Int) := by rw [w64 (by omega) (by omega)]; omega
theorem small_in (s : List Hk) (j : Int) (l : List (List Int)) (hl : l.length ≤ 1099511627776) : ∀ (m i : Nat), l.length - i < m → i ≤ l.length →
    iter F12_1 m (s, j, (i : Int), l) = some (bif (l.drop i).all (fun t => decide (t.length ≤ 40)) then .inl (s, j, (l.length : Int), l) else .inr false)
  | 0, i, h, _ => by omega
  | m + 1, i, hm, hi => by
    show F12_1 (iter F12_1 m) _ = _
    unfold F12_1
    simp only
    by_cases h : i < l.length
    · have hd : l.drop i = l[i] :: l.drop (i + 1) := List.drop_eq_getElem_cons h
      have h2 : (0 ≤ (i : Int) ∧ (i : Int) < (l.length : Int)) := ⟨by omega, by omega⟩
      have ih := small_in s j l hl m (i + 1) (by omega) h
      rw [hd, List.all_cons, decide_eq_true (show (i : Int) < (l.length : Int) by omega), cond_true, if_pos h2, getD_m l h, succ_m h hl]
      by_cases z : l[i].length ≤ 40
      · rw [decide_eq_false (show ¬ ((l[i].length : Nat) : Int) > 40 by omega), decide_eq_true z, Bool.true_and]
        exact ih
      · rw [decide_eq_true (show ((l[i].length : Nat) : Int) > 40 by omega), decide_eq_false z]
        rfl
    · obtain rfl : i = l.length := by omega
      rw [decide_eq_false (show ¬ (l.length : Int) < (l.length : Int) by omega), List.drop_length]
      rfl
def smallH (h : Hk) : Bool := decide (h.2.1.length + h.2.2.length ≤ 40) && (h.2.1 ++ h.2.2).all fun t => decide (t.length ≤ 40)
theorem small_loop (k : Nat) (hk : 41 < k) (s : List Hk) (hs : s.length ≤ 12) (hl : ∀ h ∈ s, h.2.1.length ≤ 1048576 ∧ h.2.2.length ≤ 1048576) : ∀ (m i : Nat), s.length - i < m → i ≤ s.length →
    iter (F12_0 (iter F12_1 k)) m (s, (i : Int)) = some (bif (s.drop i).all smallH then .inl (s, (s.length : Int)) else .inr false)
  | 0, i, h, _ => by omega
  | m + 1, i, hm, hi => by
    show F12_0 _ (iter (F12_0 _) m) _ = _
    unfold F12_0
    simp only
    by_cases h : i < s.length
    · have hd : s.drop i = s[i] :: s.drop (i + 1) := List.drop_eq_getElem_cons h
      have h2 : (0 ≤ (i : Int) ∧ (i : Int) < (s.length : Int)) := ⟨by omega, by omega⟩
      have ih := small_loop k hk s hs hl m (i + 1) (by omega) h
      have hlim := hl s[i] (List.getElem_mem h)
      rw [hd, List.all_cons, decide_eq_true (show (i : Int) < (s.length : Int) by omega), cond_true, if_pos h2, getD_m s h]
      have sm : smallH s[i] = (decide (s[i].2.1.length + s[i].2.2.length ≤ 40) && (s[i].2.1 ++ s[i].2.2).all fun t => decide (t.length ≤ 40)) := rfl
      rw [sm]
      generalize s[i] = x at *
      rw [if_pos (by simp only [List.length_nil]; omega), if_pos h2, if_pos (by simp only [List.length_append, List.length_nil]; omega), List.nil_append]
      have hlen : (x.2.1 ++ x.2.2).length = x.2.1.length + x.2.2.length := List.length_append
      by_cases z : x.2.1.length + x.2.2.length ≤ 40
      · have e := small_in s (i : Int) (x.2.1 ++ x.2.2) (by omega) k 0 (by omega) (by omega)
        rw [List.drop_zero] at e
        rw [decide_eq_false (show ¬ (((x.2.1 ++ x.2.2).length : Nat) : Int) > 40 by omega), decide_eq_true z, Bool.true_and]
        simp only [cond_false]
        have e' : iter F12_1 k (s, (i : Int), 0, x.2.1 ++ x.2.2) = _ := e
        rw [e', Option.bind_some]
        cases (x.2.1 ++ x.2.2).all fun t => decide (t.length ≤ 40) with
        | false => rfl
        | true =>
          simp only [cond_true, onSum, Bool.true_and, succ_m h (show s.length ≤ 1099511627776 by omega)]
          exact ih
      · rw [decide_eq_true (show (((x.2.1 ++ x.2.2).length : Nat) : Int) > 40 by omega), decide_eq_false z]
        rfl
    · obtain rfl : i = s.length := by omega
      rw [decide_eq_false (show ¬ (s.length : Int) < (s.length : Int) by omega), List.drop_length]
      rfl
def smallS (s : List Hk) : Bool := decide (s.length ≤ 12) && s.all smallH
theorem small_is (k : Nat) (hk : 41 < k) (s : List Hk) (hs : s.length ≤ 1048576) (hl : ∀ h ∈ s, h.2.1.length ≤ 1048576 ∧ h.2.2.length ≤ 1048576) : R12 (k + 1) s = some (smallS s) := by
  rw [u12]
  unfold r12 smallS
  simp only
  by_cases c : s.length ≤ 12
  · have e : J12_0 k k (s, 0) = _ := small_loop k hk s c hl k 0 (by omega) (by omega)
    rw [List.drop_zero] at e
    rw [decide_eq_false (show ¬ ((s.length : Nat) : Int) > 12 by omega), decide_eq_true c, Bool.true_and, cond_false, e, Option.bind_some]
    cases s.all smallH <;> rfl
  · rw [decide_eq_true (show ((s.length : Nat) : Int) > 12 by omega), decide_eq_false c]
    rfl
theorem digB_le : ∀ (f u : Nat), (BytesX.digB f u).length ≤ f
  | 0, u => by simp [BytesX.digB]
  | f + 1, u => by
    unfold BytesX.digB
    split
    · simp
    · have := digB_le f (u / 10)
      simp
      omega
theorem toks_small : ∀ (l : List (List Int)), (l.all fun t => decide (t.length ≤ 40)) = true → (toksB l).length ≤ 62 * l.length
  | [], _ => by simp [toksB]
  | t :: l, h => by
    rw [List.all_cons, Bool.and_eq_true, decide_eq_true_eq] at h
    have ih := toks_small l h.2
    have e : (toksB (t :: l)).length = (tokB t).length + (toksB l).length := by simp [toksB]
    have e2 : (tokB t).length = (dg t.length).length + t.length + 2 := by unfold tokB; simp; omega
    have e3 : (dg t.length).length ≤ 20 := digB_le 20 t.length
    rw [e, e2, List.length_cons]
    omega
theorem hunks_small : ∀ (s : List Hk), s.all smallH = true → (hunksB s).length ≤ 2624 * s.length
  | [], _ => by simp [hunksB]
  | h :: s, hh => by
    rw [List.all_cons, Bool.and_eq_true] at hh
    have ih := hunks_small s hh.2
    have hs := hh.1
    unfold smallH at hs
    rw [Bool.and_eq_true, decide_eq_true_eq, List.all_append, Bool.and_eq_true] at hs
    have l1 := toks_small h.2.1 hs.2.1
    have l2 := toks_small h.2.2 hs.2.2
    have e : (hunksB (h :: s)).length = (hunkB h).length + (hunksB s).length := by simp [hunksB]
    have el : (hunkB h).length = (lineB h.1.toNat h.2.1.length h.2.2.length).length + ((toksB h.2.1).length + (toksB h.2.2).length) := by unfold hunkB; simp
    have e2 : (lineB h.1.toNat h.2.1.length h.2.2.length).length = (dg h.1.toNat).length + (dg h.2.1.length).length + (dg h.2.2.length).length + 4 := by unfold lineB; simp; omega
    have a1 : (dg h.1.toNat).length ≤ 20 := digB_le 20 _
    have a2 : (dg h.2.1.length).length ≤ 20 := digB_le 20 _
    have a3 : (dg h.2.2.length).length ≤ 20 := digB_le 20 _
    rw [e, el, e2, List.length_cons]
    omega
end Go.Proofs.YtdhbnblpkodhjaaDoor.ECodedWrites
