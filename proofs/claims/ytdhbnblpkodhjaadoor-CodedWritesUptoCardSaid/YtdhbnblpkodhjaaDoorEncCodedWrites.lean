import Derived.Test.YtdhbnblpkodhjaaDoorFmtCodedWrites
import Derived.Test.YtdhbnblpkodhjaaDoorAppX
namespace Go.Proofs.YtdhbnblpkodhjaaDoor.ECodedWrites
open Go Go.Proofs.YtdhbnblpkodhjaaDoor.AE Go.Proofs.YtdhbnblpkodhjaaDoor
set_option linter.unusedVariables false
set_option linter.unusedSimpArgs false
/-! Encode: what it computes. -/
theorem getD_l {α : Type} (l : List α) {i : Nat} (h : i < l.length) (d : α) : l.getD ((i : Nat) : Int).toNat d = l[i] := by
  simp [List.getD, List.getElem?_eq_getElem h]
theorem succ_i {n i : Nat} (h : i < n) (hn : n ≤ 1099511627776) : IntKind.wrap .i64 ((i : Int) + 1) = ((i + 1 : Nat) : Int) := by rw [w64 (by omega) (by omega)]; omega
theorem digB_len : ∀ (f u : Nat), (BytesX.digB f u).length ≤ f
  | 0, u => by simp [BytesX.digB]
  | f + 1, u => by
    unfold BytesX.digB
    split
    · simp
    · have := digB_len f (u / 10)
      simp
      omega
theorem dg_len (u : Nat) : (dg u).length ≤ 20 := digB_len 20 u
/-- A number is written behind what is there. -/
theorem number_w (k : Nat) (n : Nat) (hn : n ≤ 9223372036854775807) (out : List Int) (ho : out.length ≤ 70368744177664) : R20 (k + 4) (n : Int) out = some (out ++ dg n) := by
  have q : R46 (k + 1) (n : Int) 10 out = some (out ++ dg n) := by
    show BytesX.appU ((n : Int), 10, out) = _
    unfold BytesX.appU
    rw [if_pos (by
      have h1 : 0 ≤ (n : Int) ∧ (n : Int) < 18446744073709551616 := by omega
      simp only [Bool.and_eq_true, decide_eq_true_eq]
      exact ⟨⟨h1, trivial⟩, ho⟩)]
    rfl
  have w : IntKind.wrap .u64 (n : Int) = (n : Int) := wu64 (by omega) (by omega)
  rw [u20]
  unfold r20
  rw [u36]
  unfold r36
  rw [u42]
  unfold r42
  simp only [decide_eq_false (show ¬ (n : Int) < 0 by omega), cond_false, w, q, Option.bind_some]
theorem all_loop (l : List (List Int)) (hl : l.length ≤ 1099511627776) : ∀ (m i : Nat), l.length - i < m → i ≤ l.length →
    iter F34_0 m (l, (l.length : Int), (i : Int)) = some (bif (l.drop i).all (fun t => decide (t.length ≠ 0)) then .inl (l, (l.length : Int), (l.length : Int)) else .inr false)
  | 0, i, h, _ => by omega
  | m + 1, i, hm, hi => by
    show F34_0 (iter F34_0 m) _ = _
    unfold F34_0
    simp only
    by_cases h : i < l.length
    · have hd : l.drop i = l[i] :: l.drop (i + 1) := List.drop_eq_getElem_cons h
      have h2 : (0 ≤ (i : Int) ∧ (i : Int) < (l.length : Int)) := ⟨by omega, by omega⟩
      rw [hd, List.all_cons]
      simp only [decide_eq_true (show (i : Int) < (l.length : Int) by omega), cond_true, if_pos h2, getD_l l h, succ_i h hl]
      by_cases z : l[i].length = 0
      · simp only [decide_eq_true (show ((l[i].length : Nat) : Int) = 0 by omega), cond_true, decide_eq_false (show ¬ l[i].length ≠ 0 by omega), Bool.false_and, cond_false]
      · simp only [decide_eq_false (show ¬ ((l[i].length : Nat) : Int) = 0 by omega), cond_false, decide_eq_true (show l[i].length ≠ 0 by omega), Bool.true_and]
        exact all_loop l hl m (i + 1) (by omega) h
    · obtain rfl : i = l.length := by omega
      simp only [decide_eq_false (show ¬ (l.length : Int) < (l.length : Int) by omega), cond_false, List.drop_length, List.all_nil, cond_true]
theorem all_is (k : Nat) (l : List (List Int)) (hl : l.length ≤ 1099511627776) (hk : l.length < k) : R34 (k + 1) l = some (l.all fun t => decide (t.length ≠ 0)) := by
  rw [u34]
  unfold r34
  have e : J34_0 k k (l, (l.length : Int), 0) = _ := all_loop l hl k 0 (by omega) (by omega)
  rw [List.drop_zero] at e
  simp only [e, Option.bind_some]
  cases l.all fun t => decide (t.length ≠ 0) <;> rfl
def goodB : Int → List Hk → Bool
  | _, [] => true
  | en, h :: s => decide (en < h.1) && (decide (h.1 ≤ 1048576) && (decide (h.2.1.length + h.2.2.length ≠ 0) && ((h.2.1.all fun t => decide (t.length ≠ 0)) && ((h.2.2.all fun t => decide (t.length ≠ 0)) && goodB (h.1 + (h.2.1.length : Int)) s))))
def Lim (B : Nat) (s : List Hk) : Prop := ∀ h ∈ s, h.2.1.length ≤ B ∧ h.2.2.length ≤ B
theorem good_loop (k B : Nat) (s : List Hk) (hs : s.length ≤ 1099511627776) (hB : B ≤ 1099511627776) (hk : B < k) (hl : Lim B s) : ∀ (m i : Nat) (en : Int), s.length - i < m → i ≤ s.length → -1 ≤ en → en ≤ 2199023255552 →
    ∃ en', iter (F18_0 (R34 (k + 1))) m (en, s, (s.length : Int), (i : Int)) = some (bif goodB en (s.drop i) then .inl (en', s, (s.length : Int), (s.length : Int)) else .inr false)
  | 0, i, en, h, _, _, _ => by omega
  | m + 1, i, en, hm, hi, he1, he2 => by
    show ∃ en', F18_0 _ (iter (F18_0 _) m) _ = _
    unfold F18_0
    simp only
    by_cases h : i < s.length
    · have hd : s.drop i = s[i] :: s.drop (i + 1) := List.drop_eq_getElem_cons h
      have h2 : (0 ≤ (i : Int) ∧ (i : Int) < (s.length : Int)) := ⟨by omega, by omega⟩
      have hlim := hl s[i] (List.getElem_mem h)
      rw [hd]
      unfold goodB
      simp only [decide_eq_true (show (i : Int) < (s.length : Int) by omega), cond_true, if_pos h2, getD_l s h, succ_i h hs]
      generalize s[i] = x at *
      by_cases c1 : en < x.1
      · by_cases c2 : x.1 ≤ 1048576
        · have w : IntKind.wrap .i64 ((x.2.1.length : Int) + (x.2.2.length : Int)) = ((x.2.1.length + x.2.2.length : Nat) : Int) := by rw [w64 (by omega) (by omega)]; omega
          have w2 : IntKind.wrap .i64 (x.1 + (x.2.1.length : Int)) = x.1 + (x.2.1.length : Int) := w64 (by omega) (by omega)
          by_cases c3 : x.2.1.length + x.2.2.length = 0
          · refine ⟨0, ?_⟩
            simp only [decide_eq_false (show ¬ x.1 ≤ en by omega), decide_eq_false (show ¬ x.1 > 1048576 by omega), beq_self_eq_true, cond_true, w, decide_eq_true (show ((x.2.1.length + x.2.2.length : Nat) : Int) = 0 by omega), show (true == false) = false from rfl, cond_false,
              decide_eq_true c1, decide_eq_true c2, decide_eq_false (show ¬ (x.2.1.length + x.2.2.length ≠ 0) by omega), Bool.true_and, Bool.false_and]
          · simp only [decide_eq_false (show ¬ x.1 ≤ en by omega), decide_eq_false (show ¬ x.1 > 1048576 by omega), beq_self_eq_true, cond_true, w, decide_eq_false (show ¬ ((x.2.1.length + x.2.2.length : Nat) : Int) = 0 by omega),
              decide_eq_true c1, decide_eq_true c2, decide_eq_true (show x.2.1.length + x.2.2.length ≠ 0 by omega), Bool.true_and, all_is k x.2.1 (by omega) (by omega), all_is k x.2.2 (by omega) (by omega), Option.bind_some]
            cases x.2.1.all fun t => decide (t.length ≠ 0) with
            | false => exact ⟨0, rfl⟩
            | true =>
              simp only [Bool.not_true, beq_self_eq_true, cond_true, Bool.true_and]
              cases x.2.2.all fun t => decide (t.length ≠ 0) with
              | false => exact ⟨0, rfl⟩
              | true =>
                simp only [Bool.not_true, cond_false, Bool.true_and, w2]
                exact good_loop k B s hs hB hk hl m (i + 1) _ (by omega) h (by omega) (by omega)
        · refine ⟨0, ?_⟩
          simp only [decide_eq_false (show ¬ x.1 ≤ en by omega), decide_eq_true (show x.1 > 1048576 by omega), beq_self_eq_true, cond_true, show (true == false) = false from rfl, cond_false, decide_eq_true c1, decide_eq_false c2, Bool.true_and, Bool.false_and]
      · refine ⟨0, ?_⟩
        simp only [decide_eq_true (show x.1 ≤ en by omega), show (true == false) = false from rfl, cond_false, decide_eq_false c1, Bool.false_and]
    · obtain rfl : i = s.length := by omega
      refine ⟨en, ?_⟩
      simp only [decide_eq_false (show ¬ (s.length : Int) < (s.length : Int) by omega), cond_false, List.drop_length, goodB, cond_true]
theorem good_is (k B : Nat) (s : List Hk) (hs : s.length ≤ 1099511627776) (hB : B ≤ 1099511627776) (hk : B < k) (hk2 : s.length < k) (hl : Lim B s) : R18 (k + 2) s = some (goodB (-1) s) := by
  rw [u18]
  unfold r18
  obtain ⟨en, e0⟩ := good_loop k B s hs hB hk hl (k + 1) 0 (-1) (by omega) (by omega) (by omega) (by omega)
  have e : J18_0 (k + 1) (k + 1) (-1, s, (s.length : Int), 0) = _ := e0
  rw [List.drop_zero] at e
  simp only [e, Option.bind_some]
  cases goodB (-1) s <;> rfl
def fitB (mode : Int) (l : List (List Int)) : Bool := l.all fun t => isTok mode t && decide (t.length ≤ 1048576)
def Byt (l : List (List Int)) : Prop := ∀ t ∈ l, t.length ≤ 1099511627776 ∧ ∀ x ∈ t, 0 ≤ x ∧ x ≤ 255
theorem fits_loop (k : Nat) (mode : Int) (l : List (List Int)) (hl : l.length ≤ 1099511627776) (hb : Byt l) : ∀ (m i : Nat), l.length - i < m → i ≤ l.length →
    iter (F19_0 (R35 (k + 3))) m (mode, l, (l.length : Int), (i : Int)) = some (bif fitB mode (l.drop i) then .inl (mode, l, (l.length : Int), (l.length : Int)) else .inr false)
  | 0, i, h, _ => by omega
  | m + 1, i, hm, hi => by
    show F19_0 _ (iter (F19_0 _) m) _ = _
    unfold F19_0
    simp only
    by_cases h : i < l.length
    · have hd : l.drop i = l[i] :: l.drop (i + 1) := List.drop_eq_getElem_cons h
      have h2 : (0 ≤ (i : Int) ∧ (i : Int) < (l.length : Int)) := ⟨by omega, by omega⟩
      have hbi := hb l[i] (List.getElem_mem h)
      have ih := fits_loop k mode l hl hb m (i + 1) (by omega) h
      rw [hd]
      unfold fitB at *
      rw [List.all_cons]
      simp only [decide_eq_true (show (i : Int) < (l.length : Int) by omega), cond_true, if_pos h2, getD_l l h, succ_i h hl, Is_is k mode l[i] hbi.2 hbi.1, Option.bind_some]
      generalize l[i] = x at *
      cases isTok mode x with
      | false => rfl
      | true =>
        simp only [Bool.not_true, beq_self_eq_true, cond_true, Bool.true_and]
        by_cases c : x.length ≤ 1048576
        · simp only [decide_eq_false (show ¬ (x.length : Int) > 1048576 by omega), cond_false, decide_eq_true c, Bool.true_and]
          exact ih
        · simp only [decide_eq_true (show (x.length : Int) > 1048576 by omega), cond_true, decide_eq_false c, Bool.false_and, cond_false]
    · obtain rfl : i = l.length := by omega
      simp only [decide_eq_false (show ¬ (l.length : Int) < (l.length : Int) by omega), cond_false, List.drop_length, fitB, List.all_nil, cond_true]
theorem fits_is (k : Nat) (mode : Int) (l : List (List Int)) (hl : l.length ≤ 1099511627776) (hk : l.length < k) (hb : Byt l) : R19 (k + 4) mode l = some (decide (l.length ≤ 1048576) && fitB mode l) := by
  rw [u19]
  unfold r19
  by_cases c : l.length ≤ 1048576
  · have e : J19_0 (k + 3) (k + 3) (mode, l, (l.length : Int), 0) = _ := fits_loop k mode l hl hb (k + 3) 0 (by omega) (by omega)
    rw [List.drop_zero] at e
    simp only [decide_eq_false (show ¬ (l.length : Int) > 1048576 by omega), cond_false, e, Option.bind_some, decide_eq_true c, Bool.true_and]
    cases fitB mode l <;> rfl
  · simp only [decide_eq_true (show (l.length : Int) > 1048576 by omega), cond_true, decide_eq_false c, Bool.false_and]
theorem tokens_loop (k : Nat) (l : List (List Int)) (hl : l.length ≤ 1099511627776) : ∀ (m i : Nat) (out : List Int), l.length - i < m → i ≤ l.length → out.length + (toksB (l.drop i)).length ≤ 1099511627776 →
    iter (F21_0 (R20 (k + 4))) m (l, (l.length : Int), (i : Int), out) = some (.inl (l, (l.length : Int), (l.length : Int), out ++ toksB (l.drop i))) := by
  intro m
  induction m with
  | zero => intro i out h; omega
  | succ m ihm =>
    intro i out hm hi ho
    show F21_0 _ (iter (F21_0 _) m) _ = _
    unfold F21_0
    simp only
    by_cases h : i < l.length
    · have hd : l.drop i = l[i] :: l.drop (i + 1) := List.drop_eq_getElem_cons h
      have h2 : (0 ≤ (i : Int) ∧ (i : Int) < (l.length : Int)) := ⟨by omega, by omega⟩
      have ec : toksB (l.drop i) = tokB l[i] ++ toksB (l.drop (i + 1)) := by rw [hd]; rfl
      rw [ec] at ho ⊢
      rw [List.length_append] at ho
      have hx : (tokB l[i]).length = (dg l[i].length).length + l[i].length + 2 := by unfold tokB; simp; omega
      rw [decide_eq_true (show (i : Int) < (l.length : Int) by omega), cond_true, if_pos h2, getD_l l h, succ_i h hl]
      have ih := ihm (i + 1) (out ++ tokB l[i]) (by omega) h (by rw [List.length_append]; omega)
      have et : tokB l[i] = dg l[i].length ++ 58 :: (l[i] ++ [10]) := rfl
      generalize l[i] = x at *
      rw [number_w k x.length (by omega) out (by omega)]
      rw [Option.bind_some]
      rw [if_pos (by simp only [List.length_append, List.length_cons, List.length_nil]; omega), if_pos (by simp only [List.length_append, List.length_cons, List.length_nil]; omega), if_pos (by simp only [List.length_append, List.length_cons, List.length_nil]; omega)]
      have e2 : out ++ dg x.length ++ [58] ++ x ++ [10] = out ++ tokB x := by rw [et]; simp
      rw [e2]
      refine ih.trans ?_
      simp
    · obtain rfl : i = l.length := by omega
      simp only [decide_eq_false (show ¬ (l.length : Int) < (l.length : Int) by omega), cond_false, List.drop_length]
      simp [toksB]
theorem tokens_is (k : Nat) (l : List (List Int)) (hl : l.length ≤ 1099511627776) (hk : l.length < k) (out : List Int) (ho : out.length + (toksB l).length ≤ 1099511627776) : R21 (k + 5) l out = some (out ++ toksB l) := by
  rw [u21]
  unfold r21
  have e : J21_0 (k + 4) (k + 4) (l, (l.length : Int), 0, out) = _ := tokens_loop k l hl (k + 4) 0 out (by omega) (by omega) (by rw [List.drop_zero]; exact ho)
  rw [List.drop_zero] at e
  simp only [e, Option.bind_some]
  rfl
def fitsB (mode : Int) (s : List Hk) : Bool := s.all fun h => (decide (h.2.1.length ≤ 1048576) && fitB mode h.2.1) && (decide (h.2.2.length ≤ 1048576) && fitB mode h.2.2)
theorem toks_len (l : List (List Int)) : l.length ≤ (toksB l).length := by
  induction l with
  | nil => simp
  | cons t l ih =>
    have : (toksB (t :: l)).length = (tokB t).length + (toksB l).length := by simp [toksB]
    have h2 : 2 ≤ (tokB t).length := by unfold tokB; simp; omega
    rw [this, List.length_cons]
    omega
/-- All that a hunk holds is of bytes. -/
def BytH (s : List Hk) : Prop := ∀ h ∈ s, Byt h.2.1 ∧ Byt h.2.2
theorem enc_loop (k : Nat) (mode : Int) (s : List Hk) (hs : s.length ≤ 1099511627776) (hb : BytH s) (hk : ∀ h ∈ s, h.2.1.length < k ∧ h.2.2.length < k) (ha : ∀ h ∈ s, 0 ≤ h.1 ∧ h.1 ≤ 1048576) : ∀ (m i : Nat) (out : List Int), s.length - i < m → i ≤ s.length → out.length + (hunksB (s.drop i)).length ≤ 1099511627776 →
    iter (F9_0 (R17 (k + 6)) (R18 (k + 6)) (R19 (k + 6)) (R20 (k + 6)) (R21 (k + 6))) m (mode, s, (s.length : Int), (i : Int), out) = some (bif fitsB mode (s.drop i) then .inl (mode, s, (s.length : Int), (s.length : Int), out ++ hunksB (s.drop i)) else .inr ([], 1)) := by
  intro m
  induction m with
  | zero => intro i out h; omega
  | succ m ihm =>
    intro i out hm hi ho
    show F9_0 _ _ _ _ _ (iter (F9_0 _ _ _ _ _) m) _ = _
    unfold F9_0
    simp only
    by_cases h : i < s.length
    · have hd : s.drop i = s[i] :: s.drop (i + 1) := List.drop_eq_getElem_cons h
      have h2 : (0 ≤ (i : Int) ∧ (i : Int) < (s.length : Int)) := ⟨by omega, by omega⟩
      have hbi := hb s[i] (List.getElem_mem h)
      have hki := hk s[i] (List.getElem_mem h)
      have hai := ha s[i] (List.getElem_mem h)
      have ec : hunksB (s.drop i) = hunkB s[i] ++ hunksB (s.drop (i + 1)) := by rw [hd]; rfl
      have ih := ihm (i + 1) (out ++ hunkB s[i]) (by omega) h (by rw [ec, List.length_append] at ho; rw [List.length_append]; omega)
      have ef : fitsB mode (s.drop i) = (((decide (s[i].2.1.length ≤ 1048576) && fitB mode s[i].2.1) && (decide (s[i].2.2.length ≤ 1048576) && fitB mode s[i].2.2)) && fitsB mode (s.drop (i + 1))) := by rw [hd]; rfl
      rw [ec] at ho ⊢
      rw [List.length_append] at ho
      have eh : hunkB s[i] = 64 :: (dg s[i].1.toNat ++ 32 :: (dg s[i].2.1.length ++ 32 :: (dg s[i].2.2.length ++ [10]))) ++ (toksB s[i].2.1 ++ toksB s[i].2.2) := rfl
      have el := congrArg List.length eh
      have l1 := toks_len s[i].2.1
      have l2 := toks_len s[i].2.2
      simp only [List.length_append, List.length_cons, List.length_nil] at el
      rw [ef]
      simp only [decide_eq_true (show (i : Int) < (s.length : Int) by omega), cond_true, if_pos h2, getD_l s h, succ_i h hs]
      generalize s[i] = x at *
      rw [fits_is (k + 2) mode x.2.1 (by omega) (by omega) hbi.1]
      simp only [Option.bind_some]
      cases (decide (x.2.1.length ≤ 1048576) && fitB mode x.2.1) with
      | false => rfl
      | true =>
        simp only [Bool.not_true, beq_self_eq_true, cond_true, Bool.true_and]
        rw [fits_is (k + 2) mode x.2.2 (by omega) (by omega) hbi.2]
        simp only [Option.bind_some]
        cases (decide (x.2.2.length ≤ 1048576) && fitB mode x.2.2) with
        | false => rfl
        | true =>
          simp only [Bool.not_true, cond_false, Bool.true_and]
          obtain ⟨a, ea⟩ : ∃ a : Nat, x.1 = (a : Int) := ⟨x.1.toNat, by omega⟩
          rw [ea] at eh el ⊢
          rw [Int.toNat_natCast] at eh el
          rw [if_pos (by simp only [List.length_append, List.length_cons, List.length_nil]; omega), number_w (k + 2) a (by omega) _ (by simp only [List.length_append, List.length_cons, List.length_nil]; omega)]
          simp only [Option.bind_some]
          rw [if_pos (by simp only [List.length_append, List.length_cons, List.length_nil]; omega), number_w (k + 2) x.2.1.length (by omega) _ (by simp only [List.length_append, List.length_cons, List.length_nil]; omega)]
          simp only [Option.bind_some]
          rw [if_pos (by simp only [List.length_append, List.length_cons, List.length_nil]; omega), number_w (k + 2) x.2.2.length (by omega) _ (by simp only [List.length_append, List.length_cons, List.length_nil]; omega)]
          simp only [Option.bind_some]
          rw [if_pos (by simp only [List.length_append, List.length_cons, List.length_nil]; omega), tokens_is (k + 1) x.2.1 (by omega) (by omega) _ (by simp only [List.length_append, List.length_cons, List.length_nil]; omega)]
          simp only [Option.bind_some]
          rw [tokens_is (k + 1) x.2.2 (by omega) (by omega) _ (by simp only [List.length_append, List.length_cons, List.length_nil]; omega)]
          simp only [Option.bind_some]
          have e2 : out ++ [64] ++ dg a ++ [32] ++ dg x.2.1.length ++ [32] ++ dg x.2.2.length ++ [10] ++ toksB x.2.1 ++ toksB x.2.2 = out ++ hunkB x := by rw [eh]; simp
          rw [e2]
          refine ih.trans ?_
          simp
    · obtain rfl : i = s.length := by omega
      simp only [decide_eq_false (show ¬ (s.length : Int) < (s.length : Int) by omega), cond_false, List.drop_length, fitsB, List.all_nil, cond_true]
      simp [hunksB]
theorem name_is (k : Nat) (mode : Int) : R17 (k + 1) mode = some (if mode = 0 then ⟨#[98, 121, 116, 101, 115]⟩ else if mode = 1 then ⟨#[108, 105, 110, 101, 115]⟩ else ⟨#[]⟩) := by
  rw [u17]
  unfold r17
  by_cases m0 : mode = 0
  · simp only [decide_eq_true m0, cond_true, if_pos m0]
  · by_cases m1 : mode = 1
    · simp only [decide_eq_false m0, cond_false, decide_eq_true m1, cond_true, if_neg m0, if_pos m1]
    · simp only [decide_eq_false m0, cond_false, decide_eq_false m1, if_neg m0, if_neg m1]
theorem isTok_ne {mode : Int} {t : List Int} (h : isTok mode t = true) : t.length ≠ 0 := by
  unfold isTok at h
  split at h
  · have := of_decide_eq_true h; omega
  · split at h
    · simp only [Bool.and_eq_true, decide_eq_true_eq] at h; omega
    · cases h
theorem fitB_iff {mode : Int} {l : List (List Int)} : fitB mode l = true ↔ ∀ t ∈ l, isTok mode t = true ∧ t.length ≤ 1048576 := by
  unfold fitB
  simp [List.all_eq_true]
theorem ok_iff (mode : Int) : ∀ (s : List Hk) (en : Int), -1 ≤ en → (goodB en s = true ∧ fitsB mode s = true ↔ hunksOk mode en s)
  | [], en, _ => by simp [goodB, fitsB, hunksOk]
  | h :: s, en, he => by
    unfold goodB hunksOk hOk toksOk
    have ef : fitsB mode (h :: s) = (((decide (h.2.1.length ≤ 1048576) && fitB mode h.2.1) && (decide (h.2.2.length ≤ 1048576) && fitB mode h.2.2)) && fitsB mode s) := rfl
    rw [ef]
    simp only [Bool.and_eq_true, decide_eq_true_eq, fitB_iff]
    constructor
    · rintro ⟨⟨a1, a2, a3, a4, a5, a6⟩, ⟨⟨b1, b2⟩, b3, b4⟩, b5⟩
      exact ⟨⟨a1, by omega, a2, by omega, ⟨b1, b2⟩, b3, b4⟩, (ok_iff mode s _ (by omega)).1 ⟨a6, b5⟩⟩
    · rintro ⟨⟨a1, a2, a3, a4, ⟨b1, b2⟩, b3, b4⟩, a5⟩
      obtain ⟨c1, c2⟩ := (ok_iff mode s _ (by omega)).2 a5
      refine ⟨⟨a1, a3, by omega, ?_, ?_, c1⟩, ⟨⟨b1, b2⟩, b3, b4⟩, c2⟩
      · exact List.all_eq_true.2 fun t ht => decide_eq_true (isTok_ne (b2 t ht).1)
      · exact List.all_eq_true.2 fun t ht => decide_eq_true (isTok_ne (b4 t ht).1)
theorem good_at : ∀ (s : List Hk) (en : Int), -1 ≤ en → goodB en s = true → ∀ h ∈ s, 0 ≤ h.1 ∧ h.1 ≤ 1048576
  | [], _, _, _, h, hh => by cases hh
  | x :: s, en, he, hg, h, hh => by
    unfold goodB at hg
    simp only [Bool.and_eq_true, decide_eq_true_eq] at hg
    rcases List.mem_cons.1 hh with rfl | hh
    · omega
    · exact good_at s _ (by omega) hg.2.2.2.2.2 h hh
theorem hunks_len (s : List Hk) : s.length ≤ (hunksB s).length ∧ ∀ h ∈ s, h.2.1.length ≤ (hunksB s).length ∧ h.2.2.length ≤ (hunksB s).length := by
  induction s with
  | nil => simp
  | cons x s ih =>
    have e : (hunksB (x :: s)).length = (hunkB x).length + (hunksB s).length := by simp [hunksB]
    have hp := hunkB_pos x
    have el : (hunkB x).length = (lineB x.1.toNat x.2.1.length x.2.2.length).length + ((toksB x.2.1).length + (toksB x.2.2).length) := by unfold hunkB; simp
    have l1 := toks_len x.2.1
    have l2 := toks_len x.2.2
    refine ⟨by rw [List.length_cons]; omega, fun h hh => ?_⟩
    rcases List.mem_cons.1 hh with rfl | hh
    · omega
    · have := ih.2 h hh
      omega
/-- ENCODE. -/
theorem Encode_is (k : Nat) (mode : Int) (s : List Hk) (hb : BytH s) (hB : (hunksB s).length ≤ 1073741824) (hk : (hunksB s).length < k) :
    ((mode = 0 ∨ mode = 1) ∧ hunksOk mode (-1) s ∧ R9 (k + 7) mode s = some (encS mode s, 0)) ∨ (¬ ((mode = 0 ∨ mode = 1) ∧ hunksOk mode (-1) s) ∧ R9 (k + 7) mode s = some ([], 1)) := by
  obtain ⟨l1, l2⟩ := hunks_len s
  rw [u9]
  unfold r9
  rw [name_is (k + 5) mode, good_is (k + 4) (hunksB s).length s (by omega) (by omega) (by omega) (by omega) l2]
  simp only [Option.bind_some]
  have bad : goodB (-1) s = false → ¬ ((mode = 0 ∨ mode = 1) ∧ hunksOk mode (-1) s) := fun h ⟨_, h2⟩ => by
    have := ((ok_iff mode s (-1) (by omega)).2 h2).1
    rw [h] at this
    cases this
  have main : ∀ (nm : ByteArray), (mode = 0 ∨ mode = 1) → strEq nm ⟨#[]⟩ = false → nm.size = 5 → strBytes ((⟨#[116, 97, 116, 116, 105, 110, 103, 32, 49, 32]⟩ : ByteArray) ++ nm ++ (⟨#[10]⟩ : ByteArray)) = hd mode →
      ((mode = 0 ∨ mode = 1) ∧ hunksOk mode (-1) s ∧ r9 (fun _ => some nm) (fun _ => some (goodB (-1) s)) (R19 (k + 6)) (R20 (k + 6)) (R21 (k + 6)) (J9_0 (k + 6) (k + 6)) mode s = some (encS mode s, 0)) ∨
      (¬ ((mode = 0 ∨ mode = 1) ∧ hunksOk mode (-1) s) ∧ r9 (fun _ => some nm) (fun _ => some (goodB (-1) s)) (R19 (k + 6)) (R20 (k + 6)) (R21 (k + 6)) (J9_0 (k + 6) (k + 6)) mode s = some ([], 1)) := by
    intro nm hm h1 h2 h3
    unfold r9
    simp only [h1, beq_self_eq_true, cond_true, Option.bind_some]
    cases hg : goodB (-1) s with
    | false =>
      right
      exact ⟨bad hg, rfl⟩
    | true =>
      have hat := good_at s (-1) (by omega) hg
      simp only [Bool.not_true, cond_false]
      rw [if_pos (by rw [h2]; decide), if_pos (by rw [ByteArray.size_append, h2]; decide), if_pos (by rw [ByteArray.size_append, ByteArray.size_append, h2]; decide), h3]
      have e : J9_0 (k + 6) (k + 6) (mode, s, (s.length : Int), 0, hd mode) = _ := enc_loop k mode s (by omega) hb (fun h hh => by have := l2 h hh; omega) hat (k + 6) 0 (hd mode) (by omega) (by omega) (by rw [List.drop_zero, hd_len]; omega)
      rw [List.drop_zero] at e
      rw [e]
      cases hf : fitsB mode s with
      | false =>
        right
        refine ⟨fun ⟨_, hh⟩ => ?_, rfl⟩
        have := ((ok_iff mode s (-1) (by omega)).2 hh).2
        rw [hf] at this
        cases this
      | true =>
        left
        refine ⟨hm, (ok_iff mode s (-1) (by omega)).1 ⟨hg, hf⟩, ?_⟩
        have e2 : strBytes (⟨#[46, 10]⟩ : ByteArray) = [46, 10] := rfl
        simp only [cond_true, Option.bind_some, onSum, e2]
        rw [if_pos (by simp only [List.length_append, hd_len, List.length_cons, List.length_nil]; omega)]
        unfold encS
        simp
  by_cases m0 : mode = 0
  · subst m0
    rw [if_pos rfl]
    exact main ⟨#[98, 121, 116, 101, 115]⟩ (.inl rfl) rfl rfl rfl
  · by_cases m1 : mode = 1
    · subst m1
      rw [if_neg (by decide), if_pos rfl]
      exact main ⟨#[108, 105, 110, 101, 115]⟩ (.inr rfl) rfl rfl rfl
    · right
      refine ⟨fun h => by omega, ?_⟩
      rw [if_neg m0, if_neg m1]
      rfl
end Go.Proofs.YtdhbnblpkodhjaaDoor.ECodedWrites
