import Derived.Test.YtpcnidiealmgfaaEdiEditBack
namespace Go.Proofs.Ytpcnidiealmgfaa.EEditBack
open Go Go.Proofs.Ytpcnidiealmgfaa.AE Go.Proofs.Ytpcnidiealmgfaa Go.Proofs.Ytpcnidiealmgfaa.NameX
set_option linter.unusedVariables false
set_option linter.unusedSimpArgs false
/-! Good pairs; what goes and comes between them. -/
theorem is_is (n : Nat) (a : List Int) (i : Int) : R38 (n + 1) a i = some (decide (0 ≤ i) && decide (i < (a.length : Int))) := by
  rw [u38]
  unfold r38
  by_cases h : 0 ≤ i
  · simp only [decide_eq_true (show i ≥ 0 from h), decide_eq_true h, beq_self_eq_true, cond_true, Bool.true_and]
  · simp only [decide_eq_false (show ¬ i ≥ 0 from h), decide_eq_false h, show (false == true) = false from rfl, cond_false, Bool.false_and]
def goodP (x y : List Int) : Int → Int → List Pr → Bool
  | _, _, [] => true
  | li, lj, p :: l => decide (0 ≤ p.1) && (decide (p.1 < (x.length : Int)) && (decide (0 ≤ p.2) && (decide (p.2 < (y.length : Int)) && (decide (x.getD p.1.toNat 0 = y.getD p.2.toNat 0) && (decide (li < p.1) && (decide (lj < p.2) && goodP x y p.1 p.2 l))))))
theorem goodP_cons {x y : List Int} {li lj : Int} {p : Pr} {l : List Pr} (h : goodP x y li lj (p :: l) = true) :
    0 ≤ p.1 ∧ p.1 < (x.length : Int) ∧ 0 ≤ p.2 ∧ p.2 < (y.length : Int) ∧ li < p.1 ∧ lj < p.2 ∧ goodP x y p.1 p.2 l = true ∧ x.getD p.1.toNat 0 = y.getD p.2.toNat 0 := by
  simp only [goodP, Bool.and_eq_true, decide_eq_true_eq] at h
  exact ⟨h.1, h.2.1, h.2.2.1, h.2.2.2.1, h.2.2.2.2.2.1, h.2.2.2.2.2.2.1, h.2.2.2.2.2.2.2, h.2.2.2.2.1⟩
theorem pgood_loop (n : Nat) (x y : List Int) (l : List Pr) (hl : l.length ≤ 1099511627776) : ∀ (m q : Nat) (last : Pr), l.length - q < m → q ≤ l.length →
    ∃ z, J25_0 (n + 1) m (x, y, l, (l.length : Int), (q : Int), last) = some (bif goodP x y last.1 last.2 (l.drop q) then .inl (x, y, l, (l.length : Int), (l.length : Int), z) else .inr false)
  | 0, q, last, h, _ => by omega
  | m + 1, q, last, hm, hq => by
    rw [j25_0]
    unfold F25_0
    simp only
    by_cases h : q < l.length
    · have hd : l.drop q = l[q] :: l.drop (q + 1) := List.drop_eq_getElem_cons h
      have h2 : (0 ≤ (q : Int) ∧ (q : Int) < (l.length : Int)) := ⟨by omega, by omega⟩
      rw [hd]
      unfold goodP
      simp only [decide_eq_true (show (q : Int) < (l.length : Int) by omega), cond_true, if_pos h2, getD_n l h, succ_n h hl, is_is, Option.bind_some]
      generalize l[q] = p at *
      by_cases c1 : 0 ≤ p.1
      · by_cases c2 : p.1 < (x.length : Int)
        · by_cases c3 : 0 ≤ p.2
          · by_cases c4 : p.2 < (y.length : Int)
            · simp only [decide_eq_true c1, decide_eq_true c2, decide_eq_true c3, decide_eq_true c4, Bool.and_self, Bool.not_true, beq_self_eq_true, cond_true, Bool.true_and]
              rw [if_pos ⟨c1, c2⟩, if_pos ⟨c3, c4⟩]
              by_cases c5 : x.getD p.1.toNat 0 = y.getD p.2.toNat 0
              · simp only [decide_eq_true c5, Bool.not_true, beq_self_eq_true, cond_true, Bool.true_and]
                by_cases c6 : last.1 < p.1
                · simp only [decide_eq_false (show ¬ p.1 ≤ last.1 by omega), decide_eq_true c6, beq_self_eq_true, cond_true, Bool.true_and]
                  by_cases c7 : last.2 < p.2
                  · simp only [decide_eq_false (show ¬ p.2 ≤ last.2 by omega), decide_eq_true c7, cond_false, Bool.true_and]
                    exact pgood_loop n x y l hl m (q + 1) p (by omega) h
                  · exact ⟨p, by simp only [decide_eq_true (show p.2 ≤ last.2 by omega), decide_eq_false c7, cond_true, Bool.false_and, cond_false]⟩
                · exact ⟨p, by simp only [decide_eq_true (show p.1 ≤ last.1 by omega), decide_eq_false c6, show (true == false) = false from rfl, cond_false, Bool.false_and]⟩
              · exact ⟨p, by simp only [decide_eq_false c5, Bool.not_false, show (true == false) = false from rfl, cond_false, Bool.false_and]⟩
            · exact ⟨p, by simp only [decide_eq_true c1, decide_eq_true c2, decide_eq_true c3, decide_eq_false c4, Bool.and_self, Bool.and_false, Bool.not_true, Bool.not_false, beq_self_eq_true, show (true == false) = false from rfl, cond_true, cond_false, Bool.true_and, Bool.false_and]⟩
          · exact ⟨p, by simp only [decide_eq_true c1, decide_eq_true c2, decide_eq_false c3, Bool.and_self, Bool.false_and, Bool.not_true, Bool.not_false, beq_self_eq_true, show (true == false) = false from rfl, cond_true, cond_false, Bool.true_and]⟩
        · exact ⟨p, by simp only [decide_eq_true c1, decide_eq_false c2, Bool.and_false, Bool.false_and, Bool.not_false, show (true == false) = false from rfl, cond_false, Bool.true_and]⟩
      · exact ⟨p, by simp only [decide_eq_false c1, Bool.false_and, Bool.not_false, show (true == false) = false from rfl, cond_false]⟩
    · obtain rfl : q = l.length := by omega
      refine ⟨last, ?_⟩
      rw [decide_eq_false (show ¬ (l.length : Int) < (l.length : Int) by omega), List.drop_length]
      rfl
theorem pgood_is (n : Nat) (x y : List Int) (l : List Pr) (hl : l.length ≤ 1099511627776) (hn : l.length < n) : R25 (n + 2) x y l = some (goodP x y (-1) (-1) l) := by
  rw [u25]
  unfold r25
  obtain ⟨z, e0⟩ := pgood_loop n x y l hl (n + 1) 0 (-1, -1) (by omega) (by omega)
  have e : J25_0 (n + 1) (n + 1) (x, y, l, (l.length : Int), 0, (-1, -1)) = _ := e0
  rw [List.drop_zero] at e
  simp only [e, Option.bind_some]
  cases goodP x y (-1) (-1) l <;> rfl
theorem p7good_loop (n : Nat) (x y : List Int) (l : List Pr) (hl : l.length ≤ 1099511627776) : ∀ (m q : Nat) (li lj : Int), l.length - q < m → q ≤ l.length → ((q = 0 ∧ li = -1 ∧ lj = -1) ∨ ∃ q', q = q' + 1 ∧ l[q']? = some (li, lj)) →
    J22_0 n m (x, y, l, (q : Int)) = some (bif goodP x y li lj (l.drop q) then .inl (x, y, l, (l.length : Int)) else .inr false)
  | 0, q, li, lj, h, _, _ => by omega
  | m + 1, q, li, lj, hm, hq, hp => by
    rw [j22_0]
    unfold F22_0
    simp only
    by_cases h : q < l.length
    · have hd : l.drop q = l[q] :: l.drop (q + 1) := List.drop_eq_getElem_cons h
      have h2 : (0 ≤ (q : Int) ∧ (q : Int) < (l.length : Int)) := ⟨by omega, by omega⟩
      rw [hd]
      unfold goodP
      simp only [decide_eq_true (show (q : Int) < (l.length : Int) by omega), cond_true, if_pos h2, getD_n l h, succ_n h hl]
      have ih := p7good_loop n x y l hl m (q + 1) l[q].1 l[q].2 (by omega) h (.inr ⟨q, rfl, by rw [List.getElem?_eq_getElem h]⟩)
      generalize l[q] = p at *
      by_cases c1 : 0 ≤ p.1
      · by_cases c2 : p.1 < (x.length : Int)
        · by_cases c3 : 0 ≤ p.2
          · by_cases c4 : p.2 < (y.length : Int)
            · simp only [decide_eq_true c1, decide_eq_true c2, decide_eq_true c3, decide_eq_true c4, decide_eq_false (show ¬ p.1 < 0 by omega), decide_eq_false (show ¬ p.1 ≥ (x.length : Int) by omega), decide_eq_false (show ¬ p.2 < 0 by omega), decide_eq_false (show ¬ p.2 ≥ (y.length : Int) by omega), beq_self_eq_true, cond_true, Bool.true_and]
              rw [if_pos ⟨c1, c2⟩, if_pos ⟨c3, c4⟩]
              by_cases c5 : x.getD p.1.toNat 0 = y.getD p.2.toNat 0
              · simp only [decide_eq_true c5, Bool.not_true, cond_false, Bool.true_and]
                rcases hp with ⟨rfl, rfl, rfl⟩ | ⟨q', rfl, hq'⟩
                · simp only [Int.natCast_zero, decide_eq_false (show ¬ (0 : Int) > 0 by omega), show (false == true) = false from rfl, cond_false, decide_eq_true (show (-1 : Int) < p.1 by omega), decide_eq_true (show (-1 : Int) < p.2 by omega), Bool.true_and]
                  exact ih
                · have w : IntKind.wrap .i64 (((q' + 1 : Nat) : Int) - 1) = (q' : Int) := by rw [w64 (by omega) (by omega)]; omega
                  have h3 : (0 ≤ (q' : Int) ∧ (q' : Int) < (l.length : Int)) := ⟨by omega, by omega⟩
                  have hg : l[q'] = (li, lj) := Option.some.inj ((List.getElem?_eq_getElem (show q' < l.length by omega)).symm.trans hq')
                  simp only [decide_eq_true (show ((q' + 1 : Nat) : Int) > 0 by omega), beq_self_eq_true, cond_true, w, if_pos h3, getD_n l (show q' < l.length by omega), hg]
                  by_cases c6 : li < p.1
                  · simp only [decide_eq_false (show ¬ p.1 ≤ li by omega), decide_eq_true c6, beq_self_eq_true, cond_true, Bool.true_and]
                    by_cases c7 : lj < p.2
                    · simp only [decide_eq_false (show ¬ p.2 ≤ lj by omega), decide_eq_true c7, cond_false, Bool.true_and]
                      exact ih
                    · simp only [decide_eq_true (show p.2 ≤ lj by omega), decide_eq_false c7, cond_true, Bool.false_and, cond_false]
                  · simp only [decide_eq_true (show p.1 ≤ li by omega), decide_eq_false c6, show (true == false) = false from rfl, cond_false, Bool.false_and]
              · simp only [decide_eq_false c5, Bool.not_false, cond_true, cond_false, Bool.false_and]
            · simp only [decide_eq_true c1, decide_eq_true c2, decide_eq_true c3, decide_eq_false c4, decide_eq_false (show ¬ p.1 < 0 by omega), decide_eq_false (show ¬ p.1 ≥ (x.length : Int) by omega), decide_eq_false (show ¬ p.2 < 0 by omega), decide_eq_true (show p.2 ≥ (y.length : Int) by omega), beq_self_eq_true, show (true == false) = false from rfl, cond_true, cond_false, Bool.true_and, Bool.false_and]
          · simp only [decide_eq_true c1, decide_eq_true c2, decide_eq_false c3, decide_eq_false (show ¬ p.1 < 0 by omega), decide_eq_false (show ¬ p.1 ≥ (x.length : Int) by omega), decide_eq_true (show p.2 < 0 by omega), beq_self_eq_true, show (true == false) = false from rfl, cond_true, cond_false, Bool.true_and, Bool.false_and]
        · simp only [decide_eq_true c1, decide_eq_false c2, decide_eq_false (show ¬ p.1 < 0 by omega), decide_eq_true (show p.1 ≥ (x.length : Int) by omega), beq_self_eq_true, show (true == false) = false from rfl, cond_true, cond_false, Bool.true_and, Bool.false_and]
      · simp only [decide_eq_false c1, decide_eq_true (show p.1 < 0 by omega), show (true == false) = false from rfl, cond_false, Bool.false_and]
    · obtain rfl : q = l.length := by omega
      rw [decide_eq_false (show ¬ (l.length : Int) < (l.length : Int) by omega), List.drop_length]
      rfl
theorem p7good_is (n : Nat) (x y : List Int) (l : List Pr) (hl : l.length ≤ 1099511627776) (hn : l.length < n) : R22 (n + 1) x y l = some (goodP x y (-1) (-1) l) := by
  rw [u22]
  unfold r22
  have e : J22_0 n n (x, y, l, 0) = _ := p7good_loop n x y l hl n 0 (-1) (-1) (by omega) (by omega) (.inl ⟨rfl, rfl, rfl⟩)
  rw [List.drop_zero] at e
  simp only [e, Option.bind_some]
  cases goodP x y (-1) (-1) l <;> rfl
/-! Make -/
theorem cut_len {α : Type} (l : List α) (a b : Int) : (cut l a b).length ≤ l.length := by
  simp only [cut, List.length_drop, List.length_take]; omega
theorem cut_mem {α : Type} {l : List α} {a b : Int} {t : α} (h : t ∈ cut l a b) : t ∈ l := List.mem_of_mem_take (List.mem_of_mem_drop h)
theorem toks_loop (n : Nat) (l : List Tok) (hl : l.length ≤ 1000000) (ht : ∀ t ∈ l, t.length ≤ 1000000) : ∀ (m i : Nat), l.length - i < m → i ≤ l.length →
    J27_0 (n + 1) m (l, (l.length : Int), (i : Int), l.take i) = some (.inl (l, (l.length : Int), (l.length : Int), l))
  | 0, i, h, _ => by omega
  | m + 1, i, hm, hi => by
    rw [j27_0]
    unfold F27_0
    simp only
    by_cases h : i < l.length
    · have h2 : (0 ≤ (i : Int) ∧ (i : Int) < (l.length : Int)) := ⟨by omega, by omega⟩
      have hc : R39 (n + 1) l[i] = some l[i] := by
        show cloneB l[i] = _
        rw [cloneB, if_pos (by have := ht l[i] (List.getElem_mem h); omega)]
      simp only [decide_eq_true (show (i : Int) < (l.length : Int) by omega), cond_true, if_pos h2, getD_n l h, hc, Option.bind_some, succ_n h (show l.length ≤ 1099511627776 by omega), List.length_take, List.length_cons, List.length_nil]
      rw [if_pos ⟨by omega, by omega⟩, ← List.take_succ_eq_append_getElem h]
      exact toks_loop n l hl ht m (i + 1) (by omega) h
    · obtain rfl : i = l.length := by omega
      rw [decide_eq_false (show ¬ (l.length : Int) < (l.length : Int) by omega), List.take_length]
      rfl
theorem toks_is (n : Nat) (l : List Tok) (hl : l.length ≤ 1000000) (hn : l.length < n) (ht : ∀ t ∈ l, t.length ≤ 1000000) : R27 (n + 2) l = some l := by
  rw [u27]
  unfold r27
  have e : J27_0 (n + 1) (n + 1) (l, (l.length : Int), 0, []) = _ := toks_loop n l hl ht (n + 1) 0 (by omega) (by omega)
  simp only [e, Option.bind_some]
  rfl
def mkH (a b : List Tok) (i j p q : Int) : List Hk := if i < p ∨ j < q then [(i, (cut a i p, cut b j q))] else []
theorem mkH_len (a b : List Tok) (i j p q : Int) : (mkH a b i j p q).length ≤ 1 := by unfold mkH; split <;> simp
def mkS (a b : List Tok) : Int → Int → List Pr → List Hk
  | i, j, [] => mkH a b i j (a.length : Int) (b.length : Int)
  | i, j, p :: l => mkH a b i j p.1 p.2 ++ mkS a b (p.1 + 1) (p.2 + 1) l
theorem mkS_len (a b : List Tok) : ∀ (l : List Pr) (i j : Int), (mkS a b i j l).length ≤ l.length + 1
  | [], i, j => mkH_len ..
  | p :: l, i, j => by
    have := mkH_len a b i j p.1 p.2
    have := mkS_len a b l (p.1 + 1) (p.2 + 1)
    rw [mkS, List.length_append, List.length_cons]; omega
theorem mkH_lim {a b : List Tok} {B : Nat} (ha : a.length ≤ B) (hb : b.length ≤ B) (i j p q : Int) : ∀ h ∈ mkH a b i j p q, h.2.1.length ≤ B ∧ h.2.2.length ≤ B := by
  intro h hh
  unfold mkH at hh
  split at hh
  · simp at hh; subst hh
    exact ⟨Nat.le_trans (cut_len ..) ha, Nat.le_trans (cut_len ..) hb⟩
  · simp at hh
theorem mkS_lim {a b : List Tok} {B : Nat} (ha : a.length ≤ B) (hb : b.length ≤ B) : ∀ (l : List Pr) (i j : Int), ∀ h ∈ mkS a b i j l, h.2.1.length ≤ B ∧ h.2.2.length ≤ B
  | [], i, j => mkH_lim ha hb i j _ _
  | p :: l, i, j => fun h hh => by
    rcases List.mem_append.1 hh with hh | hh
    · exact mkH_lim ha hb _ _ _ _ h hh
    · exact mkS_lim ha hb l _ _ h hh
theorem hunk_is (n : Nat) (a b : List Tok) (A : Few a) (B : Few b) (hn : 50 < n) (p q i j : Int) (s : List Hk) (hi : 0 ≤ i) (hip : i ≤ p) (hp : p ≤ (a.length : Int)) (hj : 0 ≤ j) (hjq : j ≤ q) (hq : q ≤ (b.length : Int)) (hs : s.length ≤ 1000000) :
    R26 (n + 3) p q i j s a b = some (p + 1, q + 1, s ++ mkH a b i j p q, a, b) := by
  have an := A.n
  have bn := B.n
  have w1 : IntKind.wrap .i64 (p + 1) = p + 1 := w64 (by omega) (by omega)
  have w2 : IntKind.wrap .i64 (q + 1) = q + 1 := w64 (by omega) (by omega)
  have t1 := toks_is n (cut a i p) (by have := cut_len a i p; omega) (by have := cut_len a i p; omega) (fun t ht => by have := A.t t (cut_mem ht); omega)
  have t2 := toks_is n (cut b j q) (by have := cut_len b j q; omega) (by have := cut_len b j q; omega) (fun t ht => by have := B.t t (cut_mem ht); omega)
  rw [u26]
  unfold r26 mkH
  simp only [w1, w2, t1, t2, Option.bind_some, List.length_cons, List.length_nil]
  rw [if_pos (show 0 ≤ i ∧ i ≤ p ∧ p ≤ (a.length : Int) from ⟨hi, hip, hp⟩), if_pos (show 0 ≤ j ∧ j ≤ q ∧ q ≤ (b.length : Int) from ⟨hj, hjq, hq⟩), if_pos ⟨by omega, by omega⟩]
  by_cases c1 : i < p
  · rw [decide_eq_true c1, if_pos (.inl c1)]
    rfl
  · rw [decide_eq_false c1]
    by_cases c2 : j < q
    · rw [decide_eq_true c2, if_pos (.inr c2)]
      rfl
    · rw [decide_eq_false c2, if_neg (by omega), List.append_nil]
      rfl
theorem make_loop (n : Nat) (a b : List Tok) (A : Few a) (B : Few b) (hn : 50 < n) (x y : List Int) (hx : x.length = a.length) (hy : y.length = b.length) (l : List Pr) (hl : l.length ≤ 1000) : ∀ (m q : Nat) (s : List Hk) (i j : Int), l.length - q < m → q ≤ l.length → 0 ≤ i → 0 ≤ j → i ≤ (a.length : Int) → j ≤ (b.length : Int) → goodP x y (i - 1) (j - 1) (l.drop q) = true → s.length ≤ q →
    Option.bind (J8_0 (n + 3) m (l, (l.length : Int), (q : Int), a, b, s, i, j)) (fun s5 => onSum s5 (fun y6 =>
      Option.bind (R26 (n + 3) (y6.2.2.2.1.length : Int) (y6.2.2.2.2.1.length : Int) y6.2.2.2.2.2.2.1 y6.2.2.2.2.2.2.2 y6.2.2.2.2.2.1 y6.2.2.2.1 y6.2.2.2.2.1) fun y15 => some (y15.2.2.1, (0 : Int))) (fun o12 => some o12)) = some (s ++ mkS a b i j (l.drop q), (0 : Int))
  | 0, q, s, i, j, h, _, _, _, _, _, _, _ => by omega
  | m + 1, q, s, i, j, hm, hq, hi, hj, hia, hjb, hg, hs => by
    rw [j8_0]
    unfold F8_0
    simp only
    by_cases h : q < l.length
    · have hd : l.drop q = l[q] :: l.drop (q + 1) := List.drop_eq_getElem_cons h
      have h2 : (0 ≤ (q : Int) ∧ (q : Int) < (l.length : Int)) := ⟨by omega, by omega⟩
      rw [hd] at hg ⊢
      obtain ⟨g1, g2, g3, g4, g5, g6, g7, _⟩ := goodP_cons hg
      simp only [decide_eq_true (show (q : Int) < (l.length : Int) by omega), cond_true, if_pos h2, getD_n l h, succ_n h (show l.length ≤ 1099511627776 by omega)]
      generalize l[q] = p at *
      rw [hunk_is n a b A B hn p.1 p.2 i j s hi (by omega) (by omega) hj (by omega) (by omega) (by omega), Option.bind_some]
      have := mkH_len a b i j p.1 p.2
      have e := make_loop n a b A B hn x y hx hy l hl m (q + 1) (s ++ mkH a b i j p.1 p.2) (p.1 + 1) (p.2 + 1) (by omega) h (by omega) (by omega) (by omega) (by omega) (by rw [show p.1 + 1 - 1 = p.1 by omega, show p.2 + 1 - 1 = p.2 by omega]; exact g7) (by rw [List.length_append]; omega)
      rw [mkS, ← List.append_assoc]
      exact e
    · obtain rfl : q = l.length := by omega
      simp only [decide_eq_false (show ¬ (l.length : Int) < (l.length : Int) by omega), cond_false, List.drop_length, Option.bind_some]
      show Option.bind (R26 (n + 3) (a.length : Int) (b.length : Int) i j s a b) _ = _
      rw [hunk_is n a b A B hn _ _ i j s hi hia (by omega) hj hjb (by omega) (by omega)]
      rfl
def makeS (a b : List Tok) (l : List Pr) : List Hk × Int := bif goodP (twoS a b).1 (twoS a b).2.1 (-1) (-1) l then (mkS a b 0 0 l, 0) else ([], 1)
theorem twoS_len {a b : List Tok} (A : Few a) (B : Few b) : (twoS a b).1.length = a.length ∧ (twoS a b).2.1.length = b.length := by
  obtain ⟨x, hx⟩ := idsF_some (d := dsort (a ++ b)) a (fun t ht => (dsort_mem _ _).2 (List.mem_append.2 (.inl ht)))
  obtain ⟨y, hy⟩ := idsF_some (d := dsort (a ++ b)) b (fun t ht => (dsort_mem _ _).2 (List.mem_append.2 (.inr ht)))
  rw [twoS, idsR, idsR, hx, hy]
  exact ⟨idsF_len hx, idsF_len hy⟩
theorem make_is (n : Nat) (hn : 1150 < n) (a b : List Tok) (A : Few a) (B : Few b) (l : List Pr) (hl : l.length ≤ 30) : R8 (n + 11) a b l = some (makeS a b l) := by
  obtain ⟨t1, t2⟩ := twoS_len A B
  rw [u8]
  unfold r8 makeS
  rw [two_is n (by omega) a b A B, Option.bind_some, pgood_is (n + 8) _ _ l (by omega) (by omega), Option.bind_some]
  cases hg : goodP (twoS a b).1 (twoS a b).2.1 (-1) (-1) l with
  | false => rfl
  | true =>
    simp only [Bool.not_true, cond_false, cond_true]
    have e := make_loop (n + 7) a b A B (by omega) _ _ t1 t2 l (by omega) (n + 10) 0 [] 0 0 (by omega) (by omega) (by omega) (by omega) (by omega) (by omega) (by rw [List.drop_zero]; exact hg) (by simp)
    rw [List.drop_zero] at e
    exact e
theorem few24_of {l : List Tok} (h : fewB l = true) (hb : Byts l) : Few l ∧ l.length ≤ 30 := by
  simp only [fewB, Bool.and_eq_true, decide_eq_true_eq, fewL, List.all_eq_true] at h
  exact ⟨⟨by omega, fun t ht => by have := h.2 t ht; omega, hb⟩, h.1⟩
end Go.Proofs.Ytpcnidiealmgfaa.EEditBack
