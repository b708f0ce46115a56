import Derived.Test.YtbbbcdfagmcfgaaRunWalkGood
namespace Go.Proofs.Ytbbbcdfagmcfgaa.EWalkGood
open Go Go.Proofs.Ytbbbcdfagmcfgaa.AE Go.Proofs.Ytbbbcdfagmcfgaa Go.Proofs.Ytbbbcdfagmcfgaa.VecMath Go.Proofs.Ytbbbcdfagmcfgaa.WayN Go.Proofs.Ytbbbcdfagmcfgaa.Lcs
set_option linter.unusedVariables false
set_option linter.unusedSimpArgs false
/-! Two lists of pairs; a list that is good. -/
theorem getD_n {α : Type} (l : List α) {i : Nat} (h : i < l.length) (d : α) : l.getD ((i : Nat) : Int).toNat d = l[i] := by
  simp [List.getD, List.getElem?_eq_getElem h]
theorem succ_n {n i : Nat} (h : i < n) (hn : n ≤ 1099511627776) : IntKind.wrap .i64 ((i : Int) + 1) = ((i + 1 : Nat) : Int) := by rw [w64 (by omega) (by omega)]; omega
theorem sprs_loop (n : Nat) (l : List Pq) (hl : l.length ≤ 1099511627776) : ∀ (m i : Nat), l.length - i < m → i ≤ l.length → J15_0 n m (l, l, (i : Int)) = some (.inl (l, l, (l.length : Int)))
  | 0, i, h, _ => by omega
  | m + 1, i, hm, hi => by
    rw [j15_0]
    unfold F15_0
    simp only
    by_cases h : i < l.length
    · have h2 : (0 ≤ (i : Int) ∧ (i : Int) < (l.length : Int)) := ⟨by omega, by omega⟩
      rw [decide_eq_true (show (i : Int) < (l.length : Int) by omega), cond_true, if_pos h2, if_pos h2, succ_n h hl]
      simp only [eqInt, decide_true, Bool.and_self, Bool.not_true, cond_false]
      exact sprs_loop n l hl m (i + 1) (by omega) h
    · obtain rfl : i = l.length := by omega
      rw [decide_eq_false (show ¬ (l.length : Int) < (l.length : Int) by omega)]
      rfl
theorem sprs_is (n : Nat) (l : List Pq) (hl : l.length ≤ 1099511627776) (hn : l.length < n) : R15 (n + 1) l l = some true := by
  rw [u15]
  unfold r15
  have e : J15_0 n n (l, l, 0) = _ := sprs_loop n l hl n 0 (by omega) (by omega)
  simp only [decide_true, Bool.not_true, cond_false]
  rw [e]
  rfl
theorem p7good_loop (n : Nat) (x y : List Int) (l : List Pq) (hl : l.length ≤ 1099511627776) : ∀ (m q : Nat) (li lj : Int), l.length - q < m → q ≤ l.length → ((q = 0 ∧ li = -1 ∧ lj = -1) ∨ ∃ q', q = q' + 1 ∧ l[q']? = some (li, lj)) →
    J18_0 n m (x, y, l, (q : Int)) = some (bif goodW x y li lj (l.drop q) then .inl (x, y, l, (l.length : Int)) else .inr false)
  | 0, q, li, lj, h, _, _ => by omega
  | m + 1, q, li, lj, hm, hq, hp => by
    rw [j18_0]
    unfold F18_0
    simp only
    by_cases h : q < l.length
    · have hd : l.drop q = l[q] :: l.drop (q + 1) := List.drop_eq_getElem_cons h
      have h2 : (0 ≤ (q : Int) ∧ (q : Int) < (l.length : Int)) := ⟨by omega, by omega⟩
      rw [hd]
      unfold goodW
      simp only [decide_eq_true (show (q : Int) < (l.length : Int) by omega), cond_true, if_pos h2, getD_n l h, succ_n h hl]
      have ih := p7good_loop n x y l hl m (q + 1) l[q].1 l[q].2 (by omega) h (.inr ⟨q, rfl, by rw [List.getElem?_eq_getElem h]⟩)
      generalize l[q] = p at *
      by_cases c1 : 0 ≤ p.1
      · by_cases c2 : p.1 < (x.length : Int)
        · by_cases c3 : 0 ≤ p.2
          · by_cases c4 : p.2 < (y.length : Int)
            · simp only [decide_eq_true c1, decide_eq_true c2, decide_eq_true c3, decide_eq_true c4, decide_eq_false (show ¬ p.1 < 0 by omega), decide_eq_false (show ¬ p.1 ≥ (x.length : Int) by omega), decide_eq_false (show ¬ p.2 < 0 by omega), decide_eq_false (show ¬ p.2 ≥ (y.length : Int) by omega), beq_self_eq_true, cond_true, Bool.true_and]
              rw [if_pos ⟨c1, c2⟩, if_pos ⟨c3, c4⟩]
              by_cases c5 : x.getD p.1.toNat 0 = y.getD p.2.toNat 0
              · simp only [decide_eq_true c5, Bool.not_true, cond_false, Bool.true_and]
                rcases hp with ⟨rfl, rfl, rfl⟩ | ⟨q', rfl, hq'⟩
                · simp only [Int.natCast_zero, decide_eq_false (show ¬ (0 : Int) > 0 by omega), show (false == true) = false from rfl, cond_false, decide_eq_true (show (-1 : Int) < p.1 by omega), decide_eq_true (show (-1 : Int) < p.2 by omega), Bool.true_and]
                  exact ih
                · have w : IntKind.wrap .i64 (((q' + 1 : Nat) : Int) - 1) = (q' : Int) := by rw [w64 (by omega) (by omega)]; omega
                  have h3 : (0 ≤ (q' : Int) ∧ (q' : Int) < (l.length : Int)) := ⟨by omega, by omega⟩
                  have hg : l[q'] = (li, lj) := Option.some.inj ((List.getElem?_eq_getElem (show q' < l.length by omega)).symm.trans hq')
                  simp only [decide_eq_true (show ((q' + 1 : Nat) : Int) > 0 by omega), beq_self_eq_true, cond_true, w, if_pos h3, getD_n l (show q' < l.length by omega), hg]
                  by_cases c6 : li < p.1
                  · simp only [decide_eq_false (show ¬ p.1 ≤ li by omega), decide_eq_true c6, beq_self_eq_true, cond_true, Bool.true_and]
                    by_cases c7 : lj < p.2
                    · simp only [decide_eq_false (show ¬ p.2 ≤ lj by omega), decide_eq_true c7, cond_false, Bool.true_and]
                      exact ih
                    · simp only [decide_eq_true (show p.2 ≤ lj by omega), decide_eq_false c7, cond_true, Bool.false_and, cond_false]
                  · simp only [decide_eq_true (show p.1 ≤ li by omega), decide_eq_false c6, show (true == false) = false from rfl, cond_false, Bool.false_and]
              · simp only [decide_eq_false c5, Bool.not_false, cond_true, cond_false, Bool.false_and]
            · simp only [decide_eq_true c1, decide_eq_true c2, decide_eq_true c3, decide_eq_false c4, decide_eq_false (show ¬ p.1 < 0 by omega), decide_eq_false (show ¬ p.1 ≥ (x.length : Int) by omega), decide_eq_false (show ¬ p.2 < 0 by omega), decide_eq_true (show p.2 ≥ (y.length : Int) by omega), beq_self_eq_true, show (true == false) = false from rfl, cond_true, cond_false, Bool.true_and, Bool.false_and]
          · simp only [decide_eq_true c1, decide_eq_true c2, decide_eq_false c3, decide_eq_false (show ¬ p.1 < 0 by omega), decide_eq_false (show ¬ p.1 ≥ (x.length : Int) by omega), decide_eq_true (show p.2 < 0 by omega), beq_self_eq_true, show (true == false) = false from rfl, cond_true, cond_false, Bool.true_and, Bool.false_and]
        · simp only [decide_eq_true c1, decide_eq_false c2, decide_eq_false (show ¬ p.1 < 0 by omega), decide_eq_true (show p.1 ≥ (x.length : Int) by omega), beq_self_eq_true, show (true == false) = false from rfl, cond_true, cond_false, Bool.true_and, Bool.false_and]
      · simp only [decide_eq_false c1, decide_eq_true (show p.1 < 0 by omega), show (true == false) = false from rfl, cond_false, Bool.false_and]
    · obtain rfl : q = l.length := by omega
      rw [decide_eq_false (show ¬ (l.length : Int) < (l.length : Int) by omega), List.drop_length]
      rfl
theorem p7good_is (n : Nat) (x y : List Int) (l : List Pq) (hl : l.length ≤ 1099511627776) (hn : l.length < n) : R18 (n + 1) x y l = some (goodW x y (-1) (-1) l) := by
  rw [u18]
  unfold r18
  have e : J18_0 n n (x, y, l, 0) = _ := p7good_loop n x y l hl n 0 (-1) (-1) (by omega) (by omega) (.inl ⟨rfl, rfl, rfl⟩)
  rw [List.drop_zero] at e
  simp only [e, Option.bind_some]
  cases goodW x y (-1) (-1) l <;> rfl
end Go.Proofs.Ytbbbcdfagmcfgaa.EWalkGood
