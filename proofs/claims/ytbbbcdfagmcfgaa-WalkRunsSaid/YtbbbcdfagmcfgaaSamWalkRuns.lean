import Derived.Test.YtbbbcdfagmcfgaaRunWalkRuns
namespace Go.Proofs.Ytbbbcdfagmcfgaa.EWalkRuns
open Go Go.Proofs.Ytbbbcdfagmcfgaa.AE Go.Proofs.Ytbbbcdfagmcfgaa Go.Proofs.Ytbbbcdfagmcfgaa.VecMath Go.Proofs.Ytbbbcdfagmcfgaa.WayN Go.Proofs.Ytbbbcdfagmcfgaa.Lcs
set_option linter.unusedVariables false
set_option linter.unusedSimpArgs false
/-! Two lists of pairs; a list that is good. -/
theorem getD_n {α : Type} (l : List α) {i : Nat} (h : i < l.length) (d : α) : l.getD ((i : Nat) : Int).toNat d = l[i] := by
  simp [List.getD, List.getElem?_eq_getElem h]
theorem succ_n {n i : Nat} (h : i < n) (hn : n ≤ 1099511627776) : IntKind.wrap .i64 ((i : Int) + 1) = ((i + 1 : Nat) : Int) := by rw [w64 (by omega) (by omega)]; omega
theorem sprs_loop (n : Nat) (l : List Pq) (hl : l.length ≤ 1099511627776) : ∀ (m i : Nat), l.length - i < m → i ≤ l.length → J15_0 n m (l, l, (i : Int)) = some (.inl (l, l, (l.length : Int)))
  | 0, i, h, _ => by omega
  | m + 1, i, hm, hi => by
    rw [j15_0]
    unfold F15_0
    simp only
    by_cases h : i < l.length
    · have h2 : (0 ≤ (i : Int) ∧ (i : Int) < (l.length : Int)) := ⟨by omega, by omega⟩
      rw [decide_eq_true (show (i : Int) < (l.length : Int) by omega), cond_true, if_pos h2, if_pos h2, succ_n h hl]
      simp only [eqInt, decide_true, Bool.and_self, Bool.not_true, cond_false]
      exact sprs_loop n l hl m (i + 1) (by omega) h
    · obtain rfl : i = l.length := by omega
      rw [decide_eq_false (show ¬ (l.length : Int) < (l.length : Int) by omega)]
      rfl
theorem sprs_is (n : Nat) (l : List Pq) (hl : l.length ≤ 1099511627776) (hn : l.length < n) : R15 (n + 1) l l = some true := by
  rw [u15]
  unfold r15
  have e : J15_0 n n (l, l, 0) = _ := sprs_loop n l hl n 0 (by omega) (by omega)
  simp only [decide_true, Bool.not_true, cond_false]
  rw [e]
  rfl
end Go.Proofs.Ytbbbcdfagmcfgaa.EWalkRuns
