import Derived.Test.YtdhbnblpkodhjaaDoorFmtCodedReads
namespace Go.Proofs.YtdhbnblpkodhjaaDoor.ECodedReads
open Go Go.Proofs.YtdhbnblpkodhjaaDoor.AE Go.Proofs.YtdhbnblpkodhjaaDoor
set_option linter.unusedVariables false
set_option linter.unusedSimpArgs false
/-! A script is the same as itself. -/
theorem getD_s {α : Type} (l : List α) {i : Nat} (h : i < l.length) (d : α) : l.getD ((i : Nat) : Int).toNat d = l[i] := by
  simp [List.getD, List.getElem?_eq_getElem h]
theorem succ_s {n i : Nat} (h : i < n) (hn : n ≤ 1099511627776) : IntKind.wrap .i64 ((i : Int) + 1) = ((i + 1 : Nat) : Int) := by rw [w64 (by omega) (by omega)]; omega
theorem strEq_self (s : ByteArray) : strEq s s = true := by
  unfold strEq
  simp
theorem stoks_loop (l : List (List Int)) (hl : l.length ≤ 1099511627776) : ∀ (m i : Nat), l.length - i < m → i ≤ l.length → iter F33_0 m (l, l, (i : Int)) = some (.inl (l, l, (l.length : Int)))
  | 0, i, h, _ => by omega
  | m + 1, i, hm, hi => by
    show F33_0 (iter F33_0 m) _ = _
    unfold F33_0
    simp only
    by_cases h : i < l.length
    · have h2 : (0 ≤ (i : Int) ∧ (i : Int) < (l.length : Int)) := ⟨by omega, by omega⟩
      rw [decide_eq_true (show (i : Int) < (l.length : Int) by omega), cond_true, if_pos h2, if_pos h2, strEq_self, succ_s h hl]
      exact stoks_loop l hl m (i + 1) (by omega) h
    · obtain rfl : i = l.length := by omega
      rw [decide_eq_false (show ¬ (l.length : Int) < (l.length : Int) by omega)]
      rfl
theorem stoks_is (k : Nat) (l : List (List Int)) (hl : l.length ≤ 1099511627776) (hk : l.length < k) : R33 (k + 1) l l = some true := by
  rw [u33]
  unfold r33
  have e : J33_0 k k (l, l, 0) = _ := stoks_loop l hl k 0 (by omega) (by omega)
  simp only [decide_true, Bool.not_true, cond_false]
  rw [e]
  rfl
theorem same_loop (k B : Nat) (s : List Hk) (hs : s.length ≤ 1099511627776) (hB : B ≤ 1099511627776) (hk : B < k) (hl : ∀ h ∈ s, h.2.1.length ≤ B ∧ h.2.2.length ≤ B) : ∀ (m i : Nat), s.length - i < m → i ≤ s.length → iter (F16_0 (R33 (k + 1))) m (s, s, (i : Int)) = some (.inl (s, s, (s.length : Int)))
  | 0, i, h, _ => by omega
  | m + 1, i, hm, hi => by
    show F16_0 _ (iter (F16_0 _) m) _ = _
    unfold F16_0
    simp only
    by_cases h : i < s.length
    · have h2 : (0 ≤ (i : Int) ∧ (i : Int) < (s.length : Int)) := ⟨by omega, by omega⟩
      have hlim := hl s[i] (List.getElem_mem h)
      rw [decide_eq_true (show (i : Int) < (s.length : Int) by omega), cond_true]
      simp only [if_pos h2, getD_s s h, succ_s h hs, decide_true, Bool.not_true, beq_self_eq_true, cond_true]
      generalize s[i] = x at *
      rw [stoks_is k x.2.1 (by omega) (by omega), Option.bind_some, stoks_is k x.2.2 (by omega) (by omega)]
      exact same_loop k B s hs hB hk hl m (i + 1) (by omega) h
    · obtain rfl : i = s.length := by omega
      rw [decide_eq_false (show ¬ (s.length : Int) < (s.length : Int) by omega)]
      rfl
theorem same_is (k B : Nat) (s : List Hk) (hs : s.length ≤ 1099511627776) (hB : B ≤ 1099511627776) (hk : B < k) (hk2 : s.length < k) (hl : ∀ h ∈ s, h.2.1.length ≤ B ∧ h.2.2.length ≤ B) : R16 (k + 2) s s = some true := by
  rw [u16]
  unfold r16
  have e : J16_0 (k + 1) (k + 1) (s, s, 0) = _ := same_loop k B s hs hB hk hl (k + 1) 0 (by omega) (by omega)
  simp only [decide_true, Bool.not_true, cond_false]
  rw [e]
  rfl
end Go.Proofs.YtdhbnblpkodhjaaDoor.ECodedReads
