import Derived.Test.YtpcnidiealmgfaaEdiEditBack
namespace Go.Proofs.Ytpcnidiealmgfaa.EEditBack
open Go Go.Proofs.Ytpcnidiealmgfaa.AE Go.Proofs.Ytpcnidiealmgfaa Go.Proofs.Ytpcnidiealmgfaa.NameX
set_option linter.unusedVariables false
set_option linter.unusedSimpArgs false
/-! What stays: edit.Pairs, and the reference's. -/
def run : Int → Int → Nat → List Pr
  | _, _, 0 => []
  | i, j, k + 1 => (i, j) :: run (i + 1) (j + 1) k
theorem run_len : ∀ (k : Nat) (i j : Int), (run i j k).length = k
  | 0, i, j => rfl
  | k + 1, i, j => by rw [run, List.length_cons, run_len k]
theorem stay_loop (n : Nat) (tgt : Int) : ∀ (k m : Nat) (i j : Int) (l : List Pr), (tgt - i).toNat = k → k < m → 0 ≤ i → i + k ≤ 1099511627776 → 0 ≤ j → j + k ≤ 1099511627776 → l.length + k ≤ 1099511627776 →
    J28_0 n m (tgt, i, j, l) = some (.inl (tgt, i + k, j + k, l ++ run i j k))
  | k, 0, i, j, l, _, h, _, _, _, _, _ => by omega
  | 0, m + 1, i, j, l, hk, hm, _, _, _, _, _ => by
    rw [j28_0]
    unfold F28_0
    rw [decide_eq_false (show ¬ i < tgt by omega)]
    simp only [cond_false, run, List.append_nil, Int.natCast_zero, Int.add_zero]
  | k + 1, m + 1, i, j, l, hk, hm, h1, h2, h3, h4, h5 => by
    rw [j28_0]
    unfold F28_0
    have w1 : IntKind.wrap .i64 (i + 1) = i + 1 := w64 (by omega) (by omega)
    have w2 : IntKind.wrap .i64 (j + 1) = j + 1 := w64 (by omega) (by omega)
    simp only [decide_eq_true (show i < tgt by omega), cond_true, w1, w2, List.length_cons, List.length_nil]
    rw [if_pos ⟨by omega, by omega⟩, stay_loop n tgt k m (i + 1) (j + 1) (l ++ [(i, j)]) (by omega) (by omega) (by omega) (by omega) (by omega) (by omega) (by simp; omega)]
    have e1 : i + 1 + (k : Int) = i + ((k + 1 : Nat) : Int) := by omega
    have e2 : j + 1 + (k : Int) = j + ((k + 1 : Nat) : Int) := by omega
    rw [e1, e2, run, List.append_assoc, List.singleton_append]
theorem stay_is (n : Nat) (tgt i j : Int) (l : List Pr) (k : Nat) (hk : (tgt - i).toNat = k) (hn : k < n) (h1 : 0 ≤ i) (h2 : i + k ≤ 1099511627776) (h3 : 0 ≤ j) (h4 : j + k ≤ 1099511627776) (h5 : l.length + k ≤ 1099511627776) :
    R28 (n + 1) tgt i j l = some (i + k, j + k, l ++ run i j k) := by
  rw [u28]
  unfold r28
  rw [stay_loop n tgt k n i j l hk hn h1 h2 h3 h4 h5]
  rfl
def prS (N : Int) : Int → Int → List Pr → List Hk → List Pr × Int
  | i, j, l, [] => (l ++ run i j (N - i).toNat, 0)
  | i, j, l, h :: s => if h.1 + (h.2.1.length : Int) > N then ([], 1) else
      prS N (i + ((h.1 - i).toNat : Int) + (h.2.1.length : Int)) (j + ((h.1 - i).toNat : Int) + (h.2.2.length : Int)) (l ++ run i j (h.1 - i).toNat) s
theorem good_cons {en : Int} {h : Hk} {s : List Hk} (hg : goodB en (h :: s) = true) : en < h.1 ∧ h.1 ≤ 1048576 ∧ goodB (h.1 + (h.2.1.length : Int)) s = true := by
  simp only [goodB, Bool.and_eq_true, decide_eq_true_eq] at hg
  exact ⟨hg.1, hg.2.1, hg.2.2.2.2.2⟩
theorem prS_len (N : Int) : ∀ (s : List Hk) (i j : Int) (l : List Pr) (en : Int), goodB en s = true → 0 ≤ i → i ≤ en + 1 → i ≤ N → (l.length : Int) ≤ i → ((prS N i j l s).1.length : Int) ≤ N
  | [], i, j, l, en, _, h0, _, hN, hl => by
    simp only [prS, List.length_append, run_len]; omega
  | h :: s, i, j, l, en, hg, h0, he, hN, hl => by
    obtain ⟨g1, g2, g3⟩ := good_cons hg
    unfold prS
    split
    · simp; omega
    · exact prS_len N s _ _ _ _ g3 (by omega) (by omega) (by omega) (by rw [List.length_append, run_len]; omega)
theorem pairs_loop (n : Nat) (hn : 300 < n) (N : Int) (hN0 : 0 ≤ N) (hN : N ≤ 200) (s : List Hk) (hs : s.length ≤ 40) (hL : Lim 30 s) : ∀ (m q : Nat) (i j : Int) (l : List Pr) (en : Int), s.length - q < m → q ≤ s.length → goodB en (s.drop q) = true →
    0 ≤ i → i ≤ en + 1 → i ≤ N → 0 ≤ j → j ≤ i + 30 * q → (l.length : Int) ≤ i →
    Option.bind (J9_0 (n + 1) m (N, s, (s.length : Int), (q : Int), l, i, j)) (fun s6 => onSum s6 (fun y7 => Option.bind (R28 (n + 1) y7.1 y7.2.2.2.2.2.1 y7.2.2.2.2.2.2 y7.2.2.2.2.1) fun y21 => some (y21.2.2, (0 : Int))) (fun o20 => some o20)) = some (prS N i j l (s.drop q))
  | 0, q, i, j, l, en, h, _, _, _, _, _, _, _, _ => by omega
  | m + 1, q, i, j, l, en, hm, hq, hg, h0, he, hiN, hj0, hj, hll => by
    rw [j9_0]
    unfold F9_0
    simp only
    by_cases h : q < s.length
    · have hd : s.drop q = s[q] :: s.drop (q + 1) := List.drop_eq_getElem_cons h
      have h2 : (0 ≤ (q : Int) ∧ (q : Int) < (s.length : Int)) := ⟨by omega, by omega⟩
      have hlim := hL s[q] (List.getElem_mem h)
      rw [hd] at hg ⊢
      obtain ⟨g1, g2, g3⟩ := good_cons hg
      unfold prS
      simp only [decide_eq_true (show (q : Int) < (s.length : Int) by omega), cond_true, if_pos h2, getD_n s h, succ_n h (show s.length ≤ 1099511627776 by omega)]
      generalize s[q] = x at *
      have w1 : IntKind.wrap .i64 (x.1 + (x.2.1.length : Int)) = x.1 + (x.2.1.length : Int) := w64 (by omega) (by omega)
      rw [w1]
      by_cases c : x.1 + (x.2.1.length : Int) > N
      · rw [decide_eq_true c, cond_true, if_pos c]
        rfl
      · rw [decide_eq_false c, cond_false, if_neg c]
        rw [stay_is n x.1 i j l _ rfl (by omega) h0 (by omega) hj0 (by omega) (by omega), Option.bind_some]
        simp only
        have w2 : IntKind.wrap .i64 (i + ((x.1 - i).toNat : Int) + (x.2.1.length : Int)) = i + ((x.1 - i).toNat : Int) + (x.2.1.length : Int) := w64 (by omega) (by omega)
        have w3 : IntKind.wrap .i64 (j + ((x.1 - i).toNat : Int) + (x.2.2.length : Int)) = j + ((x.1 - i).toNat : Int) + (x.2.2.length : Int) := w64 (by omega) (by omega)
        rw [w2, w3]
        exact pairs_loop n hn N hN0 hN s hs hL m (q + 1) _ _ _ _ (by omega) h g3 (by omega) (by omega) (by omega) (by omega) (by omega) (by rw [List.length_append, run_len]; omega)
    · obtain rfl : q = s.length := by omega
      simp only [decide_eq_false (show ¬ (s.length : Int) < (s.length : Int) by omega), cond_false, List.drop_length, Option.bind_some]
      show Option.bind (R28 (n + 1) N i j l) _ = _
      rw [stay_is n N i j l _ rfl (by omega) h0 (by omega) hj0 (by omega) (by omega)]
      rfl
def pairsS (N : Int) (s : List Hk) : List Pr × Int :=
  bif goodB (-1) s then (if N < 0 then ([], 1) else if N > 1048576 then ([], 1) else prS N 0 0 [] s) else ([], 1)
theorem pairs_is40 (n : Nat) (hn : 300 < n) (N : Int) (hN : N ≤ 200 ∨ 1048576 < N) (s : List Hk) (hs : s.length ≤ 40) (hL : Lim 30 s) : R9 (n + 2) N s = some (pairsS N s) := by
  rw [u9]
  unfold r9 pairsS
  rw [show n + 1 = (n - 1) + 2 by omega, good_is (n - 1) 30 s (by omega) (by omega) (by omega) (by omega) hL, Option.bind_some, show (n - 1) + 2 = n + 1 by omega]
  cases hg : goodB (-1) s with
  | false => rfl
  | true =>
    simp only [Bool.not_true, beq_self_eq_true, cond_true]
    by_cases c1 : N < 0
    · simp only [decide_eq_true c1, if_pos c1]; rfl
    · simp only [decide_eq_false c1, if_neg c1, beq_self_eq_true, cond_true]
      by_cases c2 : N > 1048576
      · simp only [decide_eq_true c2, if_pos c2, cond_true]
      · simp only [decide_eq_false c2, if_neg c2, cond_false]
        have e := pairs_loop n hn N (by omega) (by omega) s hs hL (n + 1) 0 0 0 [] (-1) (by omega) (by omega) (by rw [List.drop_zero]; exact hg) (by omega) (by omega) (by omega) (by omega) (by omega) (by simp)
        rw [List.drop_zero] at e
        exact e
theorem pairs_is (n : Nat) (hn : 300 < n) (N : Int) (hN : N ≤ 200 ∨ 1048576 < N) (s : List Hk) (S : Sml s) : R9 (n + 2) N s = some (pairsS N s) := pairs_is40 n hn N hN s (by have := S.n; omega) S.l
theorem pairsS_len (N : Int) (hN : N ≤ 200 ∨ 1048576 < N) (s : List Hk) : (pairsS N s).1.length ≤ 200 := by
  unfold pairsS
  cases hg : goodB (-1) s with
  | false => exact Nat.zero_le _
  | true =>
    rw [cond_true]
    split
    · exact Nat.zero_le _
    · split
      · exact Nat.zero_le _
      · have := prS_len N s 0 0 [] (-1) hg (by omega) (by omega) (by omega) (by simp)
        omega
theorem sprs_loop (n : Nat) (l : List Pr) (hl : l.length ≤ 1099511627776) : ∀ (m i : Nat), l.length - i < m → i ≤ l.length → J12_0 n m (l, l, (i : Int)) = some (.inl (l, l, (l.length : Int)))
  | 0, i, h, _ => by omega
  | m + 1, i, hm, hi => by
    rw [j12_0]
    unfold F12_0
    simp only
    by_cases h : i < l.length
    · have h2 : (0 ≤ (i : Int) ∧ (i : Int) < (l.length : Int)) := ⟨by omega, by omega⟩
      rw [decide_eq_true (show (i : Int) < (l.length : Int) by omega), cond_true, if_pos h2, if_pos h2, succ_n h hl]
      simp only [eqInt, decide_true, Bool.and_self, Bool.not_true, cond_false]
      exact sprs_loop n l hl m (i + 1) (by omega) h
    · obtain rfl : i = l.length := by omega
      rw [decide_eq_false (show ¬ (l.length : Int) < (l.length : Int) by omega)]
      rfl
theorem sprs_is (n : Nat) (l : List Pr) (hl : l.length ≤ 1099511627776) (hn : l.length < n) : R12 (n + 1) l l = some true := by
  rw [u12]
  unfold r12
  have e : J12_0 n n (l, l, 0) = _ := sprs_loop n l hl n 0 (by omega) (by omega)
  simp only [decide_true, Bool.not_true, cond_false]
  rw [e]
  rfl
end Go.Proofs.Ytpcnidiealmgfaa.EEditBack
