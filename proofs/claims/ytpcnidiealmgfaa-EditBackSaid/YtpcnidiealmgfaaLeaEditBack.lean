import Derived.Test.YtpcnidiealmgfaaEdi3EditBack
import Derived.Test.YtpcnidiealmgfaaEdi2EditBack
import Derived.Test.YtpcnidiealmgfaaGridX
namespace Go.Proofs.Ytpcnidiealmgfaa.EEditBack
open Go Go.Proofs.Ytpcnidiealmgfaa.AE Go.Proofs.Ytpcnidiealmgfaa Go.Proofs.Ytpcnidiealmgfaa.NameX Go.Proofs.Ytpcnidiealmgfaa.Lcs
set_option linter.unusedVariables false
set_option linter.unusedSimpArgs false
/-! The reference's longest list is a good one. -/
theorem tab_ex (a b : List Int) (L : Nat) : ∀ (d i j : Nat), (a.length - i) + (b.length - j) ≤ d → i ≤ a.length → j ≤ b.length → tabB a b i j = L + 1 →
    ∃ x y, i ≤ x ∧ x < a.length ∧ j ≤ y ∧ y < b.length ∧ a.getD x 0 = b.getD y 0 ∧ tabB a b (x + 1) (y + 1) = L
  | d, i, j, hd, hi, hj, ht => by
    by_cases h1 : i < a.length
    · by_cases h2 : j < b.length
      · have e1 : a.getD i 0 = a[i] := by rw [List.getD_eq_getElem?_getD, List.getElem?_eq_getElem h1]; rfl
        have e2 : b.getD j 0 = b[j] := by rw [List.getD_eq_getElem?_getD, List.getElem?_eq_getElem h2]; rfl
        have hs := tabB_succ a b i j h1 h2
        by_cases c : a[i] = b[j]
        · rw [if_pos c] at hs
          exact ⟨i, j, Nat.le_refl _, h1, Nat.le_refl _, h2, by rw [e1, e2, c], by omega⟩
        · rw [if_neg c] at hs
          obtain ⟨d', rfl⟩ : ∃ d', d = d' + 1 := ⟨d - 1, by omega⟩
          by_cases c2 : tabB a b (i + 1) j = L + 1
          · obtain ⟨x, y, q1, q2, q3, q4, q5, q6⟩ := tab_ex a b L d' (i + 1) j (by omega) h1 hj c2
            exact ⟨x, y, by omega, q2, q3, q4, q5, q6⟩
          · obtain ⟨x, y, q1, q2, q3, q4, q5, q6⟩ := tab_ex a b L d' i (j + 1) (by omega) hi h2 (by omega)
            exact ⟨x, y, q1, q2, by omega, q4, q5, q6⟩
      · obtain rfl : j = b.length := by omega
        rw [tabB_end2] at ht; omega
    · obtain rfl : i = a.length := by omega
      rw [tabB_end] at ht; omega
theorem gridB_row (a b : List Int) (k : Nat) (hk : k ≤ a.length) : (Pure.gridB a b).getD k [] = Pure.rowB a b k := by
  rw [List.getD_eq_getElem?_getD, Pure.gridB, List.getElem?_map, List.getElem?_range (show k < a.length + 1 by omega)]
  rfl
def Fit2 (a b : List Int) (L x y : Nat) : Prop := a.getD x 0 = b.getD y 0 ∧ tabB a b (x + 1) (y + 1) = L
theorem first_in (n : Nat) (a b : List Int) (ha : a.length ≤ 1000) (hb : b.length ≤ 1000) (L : Nat) (hL : L ≤ 1000) (j0 : Int) (x : Nat) (hx : x < a.length) : ∀ (m y : Nat), b.length - y < m → y ≤ b.length →
    (∃ y1, y ≤ y1 ∧ y1 < b.length ∧ Fit2 a b L x y1 ∧ J34_0 n m (a, b, Pure.gridB a b, j0, ((L + 1 : Nat) : Int), (x : Int), (y : Int)) = some (.inr ((x : Int), (y1 : Int)))) ∨
    ((∀ y1, y ≤ y1 → y1 < b.length → ¬ Fit2 a b L x y1) ∧ J34_0 n m (a, b, Pure.gridB a b, j0, ((L + 1 : Nat) : Int), (x : Int), (y : Int)) = some (.inl (a, b, Pure.gridB a b, j0, ((L + 1 : Nat) : Int), (x : Int), (b.length : Int))))
  | 0, y, h, _ => by omega
  | m + 1, y, hm, hy => by
    rw [j34_0]
    unfold F34_0
    simp only
    by_cases h : y < b.length
    · have h1 : (0 ≤ (x : Int) ∧ (x : Int) < (a.length : Int)) := ⟨by omega, by omega⟩
      have h2 : (0 ≤ (y : Int) ∧ (y : Int) < (b.length : Int)) := ⟨by omega, by omega⟩
      have wx : IntKind.wrap .i64 ((x : Int) + 1) = ((x + 1 : Nat) : Int) := succ_n hx (by omega)
      have wy : IntKind.wrap .i64 ((y : Int) + 1) = ((y + 1 : Nat) : Int) := succ_n h (by omega)
      have wl : IntKind.wrap .i64 (((L + 1 : Nat) : Int) - 1) = (L : Int) := by rw [w64 (by omega) (by omega)]; omega
      have hgl : (Pure.gridB a b).length = a.length + 1 := by simp [Pure.gridB]
      have hr := gridB_row a b (x + 1) (by omega)
      have hrl : (Pure.rowB a b (x + 1)).length = b.length + 1 := Pure.row_len ..
      have hg := Pure.row_get a b (x + 1) (y + 1) (by omega)
      have ih := first_in n a b ha hb L hL j0 x hx m (y + 1) (by omega) h
      simp only [decide_eq_true (show (y : Int) < (b.length : Int) by omega), cond_true, if_pos h1, if_pos h2, Int.toNat_natCast, wx, wy, wl]
      by_cases c : a.getD x 0 = b.getD y 0
      · have h3 : (0 ≤ ((x + 1 : Nat) : Int) ∧ ((x + 1 : Nat) : Int) < ((Pure.gridB a b).length : Int)) := ⟨by omega, by omega⟩
        have h4 : (0 ≤ ((y + 1 : Nat) : Int) ∧ ((y + 1 : Nat) : Int) < ((Pure.rowB a b (x + 1)).length : Int)) := ⟨by omega, by omega⟩
        rw [decide_eq_true c]
        simp only [beq_self_eq_true, cond_true, if_pos h3, hr, if_pos h4, hg]
        by_cases c2 : tabB a b (x + 1) (y + 1) = L
        · rw [decide_eq_true (show ((tabB a b (x + 1) (y + 1) : Nat) : Int) = (L : Int) by omega), cond_true]
          exact .inl ⟨y, Nat.le_refl _, h, ⟨c, c2⟩, rfl⟩
        · rw [decide_eq_false (show ¬ ((tabB a b (x + 1) (y + 1) : Nat) : Int) = (L : Int) by omega), cond_false]
          rcases ih with ⟨y1, q1, q2, q3, q4⟩ | ⟨q1, q2⟩
          · exact .inl ⟨y1, by omega, q2, q3, q4⟩
          · refine .inr ⟨fun y1 h5 h6 hf => ?_, q2⟩
            by_cases e : y1 = y
            · subst e; exact c2 hf.2
            · exact q1 y1 (by omega) h6 hf
      · rw [decide_eq_false c]
        simp only [show (false == true) = false from rfl, cond_false]
        rcases ih with ⟨y1, q1, q2, q3, q4⟩ | ⟨q1, q2⟩
        · exact .inl ⟨y1, by omega, q2, q3, q4⟩
        · refine .inr ⟨fun y1 h5 h6 hf => ?_, q2⟩
          by_cases e : y1 = y
          · subst e; exact c hf.1
          · exact q1 y1 (by omega) h6 hf
    · obtain rfl : y = b.length := by omega
      rw [decide_eq_false (show ¬ (b.length : Int) < (b.length : Int) by omega), cond_false]
      exact .inr ⟨fun y1 h5 h6 _ => by omega, rfl⟩
theorem first_out (n : Nat) (a b : List Int) (ha : a.length ≤ 1000) (hb : b.length ≤ 1000) (hn : 1000 < n) (L : Nat) (hL : L ≤ 1000) (j0 : Nat) (hj : j0 ≤ b.length) : ∀ (m x : Nat), a.length - x < m → x ≤ a.length →
    (∃ x1 y1, x ≤ x1 ∧ x1 < a.length ∧ j0 ≤ y1 ∧ y1 < b.length ∧ Fit2 a b L x1 y1) →
    ∃ x1 y1, x ≤ x1 ∧ x1 < a.length ∧ j0 ≤ y1 ∧ y1 < b.length ∧ Fit2 a b L x1 y1 ∧ J34_1 n m (a, b, Pure.gridB a b, (j0 : Int), ((L + 1 : Nat) : Int), (x : Int)) = some (.inr ((x1 : Int), (y1 : Int)))
  | 0, x, h, _, _ => by omega
  | m + 1, x, hm, hx, hex => by
    rw [j34_1]
    unfold F34_1
    simp only
    obtain ⟨x1, y1, e1, e2, e3, e4, e5⟩ := hex
    have h : x < a.length := by omega
    have wx : IntKind.wrap .i64 ((x : Int) + 1) = ((x + 1 : Nat) : Int) := succ_n h (by omega)
    rw [decide_eq_true (show (x : Int) < (a.length : Int) by omega), cond_true]
    rcases first_in n a b ha hb L hL (j0 : Int) x h n j0 (by omega) hj with ⟨y2, q1, q2, q3, q4⟩ | ⟨q1, q2⟩
    · rw [q4]
      exact ⟨x, y2, Nat.le_refl _, h, q1, q2, q3, rfl⟩
    · rw [q2]
      simp only [Option.bind_some, onSum, wx]
      have hne : x1 ≠ x := fun e => by subst e; exact q1 y1 e3 e4 e5
      obtain ⟨x3, y3, r1, r2, r3, r4, r5, r6⟩ := first_out n a b ha hb hn L hL j0 hj m (x + 1) (by omega) h ⟨x1, y1, by omega, e2, e3, e4, e5⟩
      exact ⟨x3, y3, by omega, r2, r3, r4, r5, r6⟩
theorem first_is (n : Nat) (a b : List Int) (ha : a.length ≤ 1000) (hb : b.length ≤ 1000) (hn : 1001 < n) (L i j : Nat) (hi : i ≤ a.length) (hj : j ≤ b.length) (ht : tabB a b i j = L + 1) :
    ∃ x y, i ≤ x ∧ x < a.length ∧ j ≤ y ∧ y < b.length ∧ Fit2 a b L x y ∧ R34 (n + 1) a b (Pure.gridB a b) (i : Int) (j : Int) ((L + 1 : Nat) : Int) = some ((x : Int), (y : Int)) := by
  have hle : tabB a b i j ≤ a.length := by unfold tabB; have := lcs_le (a.drop i) (b.drop j); rw [List.length_drop] at this; omega
  obtain ⟨x, y, q1, q2, q3, q4, q5, q6⟩ := tab_ex a b L _ i j (Nat.le_refl _) hi hj ht
  obtain ⟨x1, y1, r1, r2, r3, r4, r5, r6⟩ := first_out n a b ha hb (by omega) L (by omega) j hj n i (by omega) hi ⟨x, y, q1, q2, q3, q4, q5, q6⟩
  refine ⟨x1, y1, r1, r2, r3, r4, r5, ?_⟩
  rw [u34]
  unfold r34
  rw [r6]
  rfl
theorem least_loop (n : Nat) (a b : List Int) (ha : a.length ≤ 1000) (hb : b.length ≤ 1000) (hn : 1001 < n) : ∀ (L m i j : Nat) (l : List Pr), L < m → tabB a b i j = L → i ≤ a.length → j ≤ b.length → l.length + L ≤ 1000 →
    ∃ (r : List Pr) (z : Int × Int), goodP a b ((i : Int) - 1) ((j : Int) - 1) r = true ∧ r.length = L ∧ J23_0 (n + 1) m (a, b, Pure.gridB a b, (i : Int), (j : Int), (L : Int), l) = some (.inl (a, b, Pure.gridB a b, z.1, z.2, 0, l ++ r))
  | _, 0, i, j, l, h, _, _, _, _ => by omega
  | 0, m + 1, i, j, l, hm, ht, hi, hj, hl => by
    refine ⟨[], ((i : Int), (j : Int)), rfl, rfl, ?_⟩
    rw [j23_0]
    unfold F23_0
    simp only [Int.natCast_zero, decide_eq_false (show ¬ (0 : Int) > 0 by omega), cond_false, List.append_nil]
  | L + 1, m + 1, i, j, l, hm, ht, hi, hj, hl => by
    obtain ⟨x, y, q1, q2, q3, q4, q5, q6⟩ := first_is n a b ha hb hn L i j hi hj ht
    obtain ⟨r, z, r1, r2, r3⟩ := least_loop n a b ha hb hn L m (x + 1) (y + 1) (l ++ [((x : Int), (y : Int))]) (by omega) q5.2 (by omega) (by omega) (by simp; omega)
    refine ⟨((x : Int), (y : Int)) :: r, z, ?_, by simp [r2], ?_⟩
    · rw [show (((x + 1 : Nat) : Int) - 1) = (x : Int) by omega, show (((y + 1 : Nat) : Int) - 1) = (y : Int) by omega] at r1
      unfold goodP
      simp only [Int.toNat_natCast, decide_eq_true (show 0 ≤ (x : Int) by omega), decide_eq_true (show (x : Int) < (a.length : Int) by omega), decide_eq_true (show 0 ≤ (y : Int) by omega), decide_eq_true (show (y : Int) < (b.length : Int) by omega),
        decide_eq_true q5.1, decide_eq_true (show (i : Int) - 1 < (x : Int) by omega), decide_eq_true (show (j : Int) - 1 < (y : Int) by omega), Bool.true_and]
      exact r1
    · rw [j23_0]
      unfold F23_0
      have wx : IntKind.wrap .i64 ((x : Int) + 1) = ((x + 1 : Nat) : Int) := succ_n q2 (by omega)
      have wy : IntKind.wrap .i64 ((y : Int) + 1) = ((y + 1 : Nat) : Int) := succ_n q4 (by omega)
      have wl : IntKind.wrap .i64 (((L + 1 : Nat) : Int) - 1) = (L : Int) := by rw [w64 (by omega) (by omega)]; omega
      simp only [decide_eq_true (show ((L + 1 : Nat) : Int) > 0 by omega), cond_true, q6, Option.bind_some, wx, wy, wl, List.length_cons, List.length_nil]
      rw [if_pos ⟨by omega, by omega⟩, r3, List.append_assoc, List.singleton_append]
theorem least_is (n : Nat) (a b : List Int) (ha : a.length ≤ 1000) (hb : b.length ≤ 1000) (hn : 1001 < n) : ∃ r : List Pr, goodP a b (-1) (-1) r = true ∧ r.length ≤ a.length ∧ R23 (n + 2) a b = some r := by
  obtain ⟨r, z, r1, r2, r3⟩ := least_loop n a b ha hb hn (tabB a b 0 0) (n + 1) 0 0 [] (by have : tabB a b 0 0 ≤ a.length := by { unfold tabB; exact lcs_le _ _ }; omega) rfl (by omega) (by omega) (by have : tabB a b 0 0 ≤ a.length := by { unfold tabB; exact lcs_le _ _ }; simp; omega)
  have hle : tabB a b 0 0 ≤ a.length := by unfold tabB; exact lcs_le _ _
  refine ⟨r, r1, by omega, ?_⟩
  have hB : R33 (n + 1) a b = some (Pure.gridB a b) := by
    show GridX.behS (a, b) = _
    unfold GridX.behS
    rw [if_pos ⟨ha, hb⟩]
  have hgl : (Pure.gridB a b).length = a.length + 1 := by simp [Pure.gridB]
  have hr := gridB_row a b 0 (by omega)
  have hrl : (Pure.rowB a b 0).length = b.length + 1 := Pure.row_len ..
  have hg := Pure.row_get a b 0 0 (by omega)
  rw [u23]
  unfold r23
  rw [hB, Option.bind_some]
  have t0 : (0 : Int).toNat = 0 := rfl
  simp only [t0, hr, hg, hgl, hrl]
  rw [if_pos ⟨by omega, by omega⟩, if_pos ⟨by omega, by omega⟩]
  have r3' : J23_0 (n + 1) (n + 1) (a, b, Pure.gridB a b, 0, 0, ((tabB a b 0 0 : Nat) : Int), []) = _ := r3
  rw [r3']
  rfl
/-! The script of a good list. -/
theorem cut_size {α : Type} (l : List α) (a b : Int) (h0 : 0 ≤ a) (h1 : a ≤ b) (h2 : b ≤ (l.length : Int)) : ((cut l a b).length : Int) = b - a := by
  simp only [cut, List.length_drop, List.length_take]; omega
theorem mkS_good (a b : List Tok) (hA : ∀ t ∈ a, t.length ≠ 0) (hB : ∀ t ∈ b, t.length ≠ 0) (hal : a.length ≤ 1000) (x y : List Int) (hx : x.length = a.length) (hy : y.length = b.length) : ∀ (l : List Pr) (i j en : Int), goodP x y (i - 1) (j - 1) l = true → 0 ≤ i → 0 ≤ j → i ≤ (a.length : Int) → j ≤ (b.length : Int) → en < i → goodB en (mkS a b i j l) = true := by
  have hcut : ∀ (l : List Tok) (p q : Int), (∀ t ∈ l, t.length ≠ 0) → ((cut l p q).all fun t => decide (t.length ≠ 0)) = true := fun l p q h => by
    rw [List.all_eq_true]; intro t ht; exact decide_eq_true (h t (cut_mem ht))
  have one : ∀ (i j p q en : Int) (s : List Hk), 0 ≤ i → 0 ≤ j → i ≤ p → j ≤ q → p ≤ (a.length : Int) → q ≤ (b.length : Int) → en < i → (∀ en', en' ≤ p → goodB en' s = true) → goodB en (mkH a b i j p q ++ s) = true := by
    intro i j p q en s h1 h2 h3 h4 h5 h6 h7 hs
    unfold mkH
    split
    · rename_i hc
      have s1 := cut_size a i p h1 h3 h5
      have s2 := cut_size b j q h2 h4 h6
      rw [List.singleton_append]
      unfold goodB
      simp only [hcut a i p hA, hcut b j q hB, Bool.true_and]
      rw [decide_eq_true h7, decide_eq_true (show i ≤ 1048576 by omega), decide_eq_true (show (cut a i p).length + (cut b j q).length ≠ 0 by omega), hs _ (by omega)]
      rfl
    · rw [List.nil_append]; exact hs en (by omega)
  intro l
  induction l with
  | nil =>
    intro i j en hg h1 h2 h3 h4 h5
    have := one i j (a.length : Int) (b.length : Int) en [] h1 h2 h3 h4 (Int.le_refl _) (Int.le_refl _) h5 (fun _ _ => rfl)
    rw [List.append_nil] at this
    exact this
  | cons p l ih =>
    intro i j en hg h1 h2 h3 h4 h5
    obtain ⟨g1, g2, g3, g4, g5, g6, g7, _⟩ := goodP_cons hg
    refine one i j p.1 p.2 en _ h1 h2 (by omega) (by omega) (by omega) (by omega) h5 fun en' he => ?_
    exact ih (p.1 + 1) (p.2 + 1) en' (by rw [show p.1 + 1 - 1 = p.1 by omega, show p.2 + 1 - 1 = p.2 by omega]; exact g7) (by omega) (by omega) (by omega) (by omega) (by omega)
theorem run_succ : ∀ (k : Nat) (i j : Int), run i j (k + 1) = run i j k ++ [(i + k, j + k)]
  | 0, i, j => by simp [run]
  | k + 1, i, j => by
    rw [run, run_succ k (i + 1) (j + 1)]
    rw [show run i j (k + 1) = (i, j) :: run (i + 1) (j + 1) k from rfl, List.cons_append]
    have e1 : i + 1 + (k : Int) = i + ((k + 1 : Nat) : Int) := by omega
    have e2 : j + 1 + (k : Int) = j + ((k + 1 : Nat) : Int) := by omega
    rw [e1, e2]
theorem mkS_pairs (a b : List Tok) (x y : List Int) (hx : x.length = a.length) (hy : y.length = b.length) : ∀ (l : List Pr) (i0 j0 : Int) (k : Nat) (acc : List Pr), goodP x y (i0 + k - 1) (j0 + k - 1) l = true → 0 ≤ i0 → 0 ≤ j0 → i0 + k ≤ (a.length : Int) → j0 + k ≤ (b.length : Int) →
    prS (a.length : Int) i0 j0 acc (mkS a b (i0 + k) (j0 + k) l) = (acc ++ run i0 j0 k ++ l, 0)
  | [], i0, j0, k, acc, hg, h1, h2, h3, h4 => by
    unfold mkS mkH
    split
    · rename_i hc
      have s1 := cut_size a (i0 + k) (a.length : Int) (by omega) h3 (Int.le_refl _)
      have s2 := cut_size b (j0 + k) (b.length : Int) (by omega) h4 (Int.le_refl _)
      unfold prS
      simp only [s1, s2]
      rw [if_neg (by omega), show ((i0 + (k : Int) - i0).toNat) = k by omega]
      unfold prS
      rw [show ((a.length : Int) - (i0 + (k : Int) + ((a.length : Int) - (i0 + (k : Int))))).toNat = 0 by omega, run]
      try simp
    · rename_i hc
      unfold prS
      rw [show ((a.length : Int) - i0).toNat = k by omega, List.append_nil]
  | p :: l, i0, j0, k, acc, hg, h1, h2, h3, h4 => by
    obtain ⟨g1, g2, g3, g4, g5, g6, g7, _⟩ := goodP_cons hg
    unfold mkS mkH
    split
    · rename_i hc
      have s1 := cut_size a (i0 + k) p.1 (by omega) (by omega) (by omega)
      have s2 := cut_size b (j0 + k) p.2 (by omega) (by omega) (by omega)
      rw [List.singleton_append]
      unfold prS
      simp only [s1, s2]
      rw [if_neg (by omega), show ((i0 + (k : Int) - i0).toNat) = k by omega, show i0 + (k : Int) + (p.1 - (i0 + (k : Int))) = p.1 by omega, show j0 + (k : Int) + (p.2 - (j0 + (k : Int))) = p.2 by omega]
      have ih := mkS_pairs a b x y hx hy l p.1 p.2 1 (acc ++ run i0 j0 k) (by rw [show p.1 + ((1 : Nat) : Int) - 1 = p.1 by omega, show p.2 + ((1 : Nat) : Int) - 1 = p.2 by omega]; exact g7) (by omega) (by omega) (by omega) (by omega)
      have e : run p.1 p.2 1 = [p] := rfl
      rw [e] at ih
      have ih' : prS (a.length : Int) p.1 p.2 (acc ++ run i0 j0 k) (mkS a b (p.1 + 1) (p.2 + 1) l) = _ := ih
      rw [ih', List.append_assoc (acc ++ run i0 j0 k), List.singleton_append]
    · rename_i hc
      rw [List.nil_append]
      have e1 : p = (i0 + (k : Int), j0 + (k : Int)) := Prod.ext (by simp; omega) (by simp; omega)
      have ih := mkS_pairs a b x y hx hy l i0 j0 (k + 1) acc (by rw [show i0 + ((k + 1 : Nat) : Int) - 1 = p.1 by omega, show j0 + ((k + 1 : Nat) : Int) - 1 = p.2 by omega]; exact g7) h1 h2 (by omega) (by omega)
      rw [show p.1 + 1 = i0 + ((k + 1 : Nat) : Int) by omega, show p.2 + 1 = j0 + ((k + 1 : Nat) : Int) by omega, ih, run_succ, ← e1]
      simp [List.append_assoc]
theorem delN_app : ∀ (s t : List Hk), delN (s ++ t) = delN s + delN t ∧ insN (s ++ t) = insN s + insN t
  | [], t => ⟨by simp [delN], by simp [insN]⟩
  | h :: s, t => by
    have := delN_app s t
    rw [List.cons_append]
    simp only [delN, insN]
    omega
theorem mkH_del (a b : List Tok) (i j p q : Int) (h1 : 0 ≤ i) (h2 : 0 ≤ j) (h3 : i ≤ p) (h4 : j ≤ q) (h5 : p ≤ (a.length : Int)) (h6 : q ≤ (b.length : Int)) : (delN (mkH a b i j p q) : Int) = p - i ∧ (insN (mkH a b i j p q) : Int) = q - j := by
  unfold mkH
  split
  · have s1 := cut_size a i p h1 h3 h5
    have s2 := cut_size b j q h2 h4 h6
    simp only [delN, insN, Nat.add_zero]
    exact ⟨s1, s2⟩
  · simp only [delN, insN]
    omega
theorem mkS_del (a b : List Tok) (x y : List Int) (hx : x.length = a.length) (hy : y.length = b.length) : ∀ (l : List Pr) (i j : Int), goodP x y (i - 1) (j - 1) l = true → 0 ≤ i → 0 ≤ j → i ≤ (a.length : Int) → j ≤ (b.length : Int) →
    (delN (mkS a b i j l) : Int) = (a.length : Int) - i - (l.length : Int) ∧ (insN (mkS a b i j l) : Int) = (b.length : Int) - j - (l.length : Int)
  | [], i, j, hg, h1, h2, h3, h4 => by
    have := mkH_del a b i j (a.length : Int) (b.length : Int) h1 h2 h3 h4 (Int.le_refl _) (Int.le_refl _)
    unfold mkS
    simp only [List.length_nil]
    omega
  | p :: l, i, j, hg, h1, h2, h3, h4 => by
    obtain ⟨g1, g2, g3, g4, g5, g6, g7, _⟩ := goodP_cons hg
    have e1 := mkH_del a b i j p.1 p.2 h1 h2 (by omega) (by omega) (by omega) (by omega)
    have ih := mkS_del a b x y hx hy l (p.1 + 1) (p.2 + 1) (by rw [show p.1 + 1 - 1 = p.1 by omega, show p.2 + 1 - 1 = p.2 by omega]; exact g7) (by omega) (by omega) (by omega) (by omega)
    have e2 := delN_app (mkH a b i j p.1 p.2) (mkS a b (p.1 + 1) (p.2 + 1) l)
    unfold mkS
    simp only [List.length_cons]
    omega
end Go.Proofs.Ytpcnidiealmgfaa.EEditBack
