import Derived.Test.YtdhbnblpkodhjaaDoorEncCodedWrites
namespace Go.Proofs.YtdhbnblpkodhjaaDoor.ECodedWrites
open Go Go.Proofs.YtdhbnblpkodhjaaDoor.AE Go.Proofs.YtdhbnblpkodhjaaDoor
set_option linter.unusedVariables false
set_option linter.unusedSimpArgs false
/-! The reference's Encode: what it computes. -/
theorem strBytes_app (a b : ByteArray) : strBytes (a ++ b) = strBytes a ++ strBytes b := by
  unfold strBytes
  simp [ByteArray.data_append]
theorem strBytes_u8l (l : List Int) (h : ∀ a ∈ l, 0 ≤ a ∧ a ≤ 255) : strBytes (bytesStr l) = l := by
  have := back_u8 l h
  unfold strBytes bytesStr
  simpa using this
theorem size_eq (s : ByteArray) : s.size = (strBytes s).length := (strBytes_len s).symm
theorem Digits_is (k : Nat) : ∀ (d n : Nat), n < 10 ^ (d + 1) → n ≤ 1048576 → ∃ s, R24 (k + 1 + d) (n : Int) = some s ∧ strBytes s = dg n := by
  have one : ∀ (x : Nat), x < 10 → IntKind.wrap .u8 (IntKind.wrap .i64 (48 + (x : Int))) = ((48 + x : Nat) : Int) := by
    intro x hx
    rw [w64 (by omega) (by omega), wu8 (by omega) (by omega)]
    omega
  have sb : ∀ (x : Nat), x < 10 → strBytes (bytesStr [((48 + x : Nat) : Int)]) = [((48 + x : Nat) : Int)] := by
    intro x hx
    refine strBytes_u8l _ fun a ha => ?_
    simp at ha
    omega
  intro d
  induction d with
  | zero =>
    intro n h hn
    rw [Nat.add_zero, u24]
    unfold r24
    have h10 : n < 10 := by simpa using h
    simp only [decide_eq_true (show (n : Int) < 10 by omega), cond_true, one n h10]
    exact ⟨_, rfl, by rw [sb n h10, dg_small h10]⟩
  | succ d ih =>
    intro n h hn
    rw [← Nat.add_assoc, u24]
    unfold r24
    by_cases h10 : n < 10
    · simp only [decide_eq_true (show (n : Int) < 10 by omega), cond_true, one n h10]
      exact ⟨_, rfl, by rw [sb n h10, dg_small h10]⟩
    · obtain ⟨s, e1, e2⟩ := ih (n / 10) (by rw [Nat.pow_succ] at h; omega) (by omega)
      have t1 : (n : Int).tdiv 10 = ((n / 10 : Nat) : Int) := rfl
      have t2 : (n : Int).tmod 10 = ((n % 10 : Nat) : Int) := rfl
      have w1 : IntKind.wrap .i64 (((n / 10 : Nat) : Int)) = ((n / 10 : Nat) : Int) := w64 (by omega) (by omega)
      have hs : s.size ≤ 20 := by rw [size_eq, e2]; exact dg_len _
      have hb : (bytesStr [((48 + n % 10 : Nat) : Int)]).size = 1 := by rw [size_eq, sb _ (by omega)]; rfl
      simp only [decide_eq_false (show ¬ (n : Int) < 10 by omega), cond_false, if_neg (show ¬ (10 : Int) = 0 by decide), t1, w1, e1, Option.bind_some, t2, one (n % 10) (by omega)]
      rw [if_pos (by rw [hb]; omega)]
      refine ⟨_, rfl, ?_⟩
      rw [strBytes_app, e2, sb _ (by omega), ← dg_step (by omega) (by omega)]
theorem Digits8 (k n : Nat) (hn : n ≤ 1048576) : ∃ s, R24 (k + 7) (n : Int) = some s ∧ strBytes s = dg n := Digits_is k 6 n (by omega) hn
theorem rall1 (s : List Hk) (i : Int) (h : Hk) (hl : h.2.1.length ≤ 1099511627776) : ∀ (m j : Nat), h.2.1.length - j < m → j ≤ h.2.1.length →
    iter F23_1 m (s, i, (j : Int), h) = some (bif (h.2.1.drop j).all (fun t => decide (t.length ≠ 0)) then .inl (s, i, (h.2.1.length : Int), h) else .inr false)
  | 0, j, hm, _ => by omega
  | m + 1, j, hm, hj => by
    show F23_1 (iter F23_1 m) _ = _
    unfold F23_1
    simp only
    by_cases c : j < h.2.1.length
    · have hd : h.2.1.drop j = h.2.1[j] :: h.2.1.drop (j + 1) := List.drop_eq_getElem_cons c
      have ih := rall1 s i h hl m (j + 1) (by omega) c
      rw [hd, List.all_cons, decide_eq_true (show (j : Int) < (h.2.1.length : Int) by omega), cond_true, if_pos ⟨by omega, by omega⟩, getD_l h.2.1 c, succ_i c hl]
      by_cases z : h.2.1[j].length = 0
      · rw [decide_eq_true (show ((h.2.1[j].length : Nat) : Int) = 0 by omega), decide_eq_false (show ¬ h.2.1[j].length ≠ 0 by omega)]
        rfl
      · rw [decide_eq_false (show ¬ ((h.2.1[j].length : Nat) : Int) = 0 by omega), decide_eq_true (show h.2.1[j].length ≠ 0 by omega), Bool.true_and]
        exact ih
    · obtain rfl : j = h.2.1.length := by omega
      rw [decide_eq_false (show ¬ (h.2.1.length : Int) < (h.2.1.length : Int) by omega), List.drop_length]
      rfl
theorem rall2 (s : List Hk) (i : Int) (h : Hk) (hl : h.2.2.length ≤ 1099511627776) : ∀ (m j : Nat), h.2.2.length - j < m → j ≤ h.2.2.length →
    iter F23_2 m (s, i, (j : Int), h) = some (bif (h.2.2.drop j).all (fun t => decide (t.length ≠ 0)) then .inl (s, i, (h.2.2.length : Int), h) else .inr false)
  | 0, j, hm, _ => by omega
  | m + 1, j, hm, hj => by
    show F23_2 (iter F23_2 m) _ = _
    unfold F23_2
    simp only
    by_cases c : j < h.2.2.length
    · have hd : h.2.2.drop j = h.2.2[j] :: h.2.2.drop (j + 1) := List.drop_eq_getElem_cons c
      have ih := rall2 s i h hl m (j + 1) (by omega) c
      rw [hd, List.all_cons, decide_eq_true (show (j : Int) < (h.2.2.length : Int) by omega), cond_true, if_pos ⟨by omega, by omega⟩, getD_l h.2.2 c, succ_i c hl]
      by_cases z : h.2.2[j].length = 0
      · rw [decide_eq_true (show ((h.2.2[j].length : Nat) : Int) = 0 by omega), decide_eq_false (show ¬ h.2.2[j].length ≠ 0 by omega)]
        rfl
      · rw [decide_eq_false (show ¬ ((h.2.2[j].length : Nat) : Int) = 0 by omega), decide_eq_true (show h.2.2[j].length ≠ 0 by omega), Bool.true_and]
        exact ih
    · obtain rfl : j = h.2.2.length := by omega
      rw [decide_eq_false (show ¬ (h.2.2.length : Int) < (h.2.2.length : Int) by omega), List.drop_length]
      rfl
theorem rgood_loop (k B : Nat) (s : List Hk) (hs : s.length ≤ 1099511627776) (hB : B ≤ 1099511627776) (hk : B < k) (hl : Lim B s) (hat : ∀ h ∈ s, -9223372036854775808 ≤ h.1 ∧ h.1 ≤ 9223372036854775807) : ∀ (m i : Nat) (en : Int), s.length - i < m → i ≤ s.length →
    ((i = 0 ∧ en = -1) ∨ ∃ j p, i = j + 1 ∧ s[j]? = some p ∧ 0 ≤ p.1 ∧ p.1 ≤ 1048576 ∧ en = p.1 + (p.2.1.length : Int)) →
    iter (F23_0 (iter F23_1 k) (iter F23_2 k)) m (s, (i : Int)) = some (bif goodB en (s.drop i) then .inl (s, (s.length : Int)) else .inr false)
  | 0, i, en, h, _, _ => by omega
  | m + 1, i, en, hm, hi, hen => by
    show F23_0 _ _ (iter (F23_0 _ _) m) _ = _
    unfold F23_0
    simp only
    by_cases h : i < s.length
    · have hd : s.drop i = s[i] :: s.drop (i + 1) := List.drop_eq_getElem_cons h
      have h2 : (0 ≤ (i : Int) ∧ (i : Int) < (s.length : Int)) := ⟨by omega, by omega⟩
      have hlim := hl s[i] (List.getElem_mem h)
      have hati := hat s[i] (List.getElem_mem h)
      have hsi : s[i]? = some s[i] := List.getElem?_eq_getElem h
      rw [hd]
      unfold goodB
      rw [decide_eq_true (show (i : Int) < (s.length : Int) by omega), cond_true, if_pos h2, getD_l s h]
      generalize hx : s[i] = x at *
      have fin : ∀ (en2 : Int), 0 ≤ x.1 → x.1 ≤ 1048576 → en2 = x.1 + (x.2.1.length : Int) → iter (F23_0 (iter F23_1 k) (iter F23_2 k)) m (s, ((i + 1 : Nat) : Int)) = some (bif goodB en2 (s.drop (i + 1)) then .inl (s, (s.length : Int)) else .inr false) := fun en2 g1 g2 g3 =>
        rgood_loop k B s hs hB hk hl hat m (i + 1) en2 (by omega) h (.inr ⟨i, x, rfl, hsi, g1, g2, g3⟩)
      have tail : 0 ≤ x.1 → x.1 ≤ 1048576 → Option.bind (iter F23_1 k (s, (i : Int), 0, x)) (fun s21 => onSum s21 (fun y22 =>
            Option.bind (iter F23_2 k (y22.1, y22.2.1, (0 : Int), y22.2.2.2)) fun s31 => onSum s31 (fun y32 =>
            iter (F23_0 (iter F23_1 k) (iter F23_2 k)) m (y32.1, IntKind.wrap .i64 (y32.2.1 + (1 : Int)))) (fun o40 => some (.inr o40))) (fun o30 => some (.inr o30))) =
          some (bif (x.2.1.all fun t => decide (t.length ≠ 0)) && ((x.2.2.all fun t => decide (t.length ≠ 0)) && goodB (x.1 + (x.2.1.length : Int)) (s.drop (i + 1))) then .inl (s, (s.length : Int)) else .inr false) := by
        intro g1 g2
        have a1 : iter F23_1 k (s, (i : Int), 0, x) = _ := rall1 s (i : Int) x (by omega) k 0 (by omega) (by omega)
        have a2 : iter F23_2 k (s, (i : Int), 0, x) = _ := rall2 s (i : Int) x (by omega) k 0 (by omega) (by omega)
        rw [List.drop_zero] at a1 a2
        rw [a1, Option.bind_some]
        cases x.2.1.all fun t => decide (t.length ≠ 0) with
        | false => rfl
        | true =>
          simp only [cond_true, onSum, Bool.true_and]
          rw [a2, Option.bind_some]
          cases x.2.2.all fun t => decide (t.length ≠ 0) with
          | false => rfl
          | true =>
            simp only [cond_true, onSum, Bool.true_and]
            rw [succ_i h hs]
            exact fin _ g1 g2 rfl
      have en1 : -1 ≤ en := by
        rcases hen with ⟨_, rfl⟩ | ⟨j, p, _, _, q1, _, rfl⟩ <;> omega
      have w : IntKind.wrap .i64 ((x.2.1.length : Int) + (x.2.2.length : Int)) = ((x.2.1.length + x.2.2.length : Nat) : Int) := by rw [w64 (by omega) (by omega)]; omega
      by_cases c0 : x.1 < 0
      · rw [decide_eq_true c0, decide_eq_false (show ¬ en < x.1 by omega)]
        rfl
      · rw [decide_eq_false c0]
        by_cases c2 : x.1 ≤ 1048576
        · rw [decide_eq_false (show ¬ x.1 > 1048576 by omega), w]
          by_cases c3 : x.2.1.length + x.2.2.length = 0
          · rw [decide_eq_true (show ((x.2.1.length + x.2.2.length : Nat) : Int) = 0 by omega), decide_eq_false (show ¬ (x.2.1.length + x.2.2.length ≠ 0) by omega)]
            simp
          · rw [decide_eq_false (show ¬ ((x.2.1.length + x.2.2.length : Nat) : Int) = 0 by omega), decide_eq_true (show x.2.1.length + x.2.2.length ≠ 0 by omega), decide_eq_true c2, Bool.true_and, Bool.true_and]
            have t := tail (by omega) c2
            rcases hen with ⟨rfl, rfl⟩ | ⟨j, p, rfl, hp, q1, q2, rfl⟩
            · rw [decide_eq_false (show ¬ ((0 : Nat) : Int) > 0 by omega), decide_eq_true (show -1 < x.1 by omega), Bool.true_and]
              exact t
            · have hj : j < s.length := by omega
              have ej : s[j] = p := by rw [List.getElem?_eq_getElem hj] at hp; exact Option.some.inj hp
              have wj : IntKind.wrap .i64 (((j + 1 : Nat) : Int) - 1) = (j : Int) := by rw [w64 (by omega) (by omega)]; omega
              have hpl := hl p (by rw [← ej]; exact List.getElem_mem hj)
              rw [decide_eq_true (show ((j + 1 : Nat) : Int) > 0 by omega), wj, if_pos (show 0 ≤ (j : Int) ∧ (j : Int) < (s.length : Int) by omega), if_pos (show 0 ≤ (j : Int) ∧ (j : Int) < (s.length : Int) by omega), getD_l s hj, ej]
              have wd : IntKind.wrap .i64 (x.1 - p.1) = x.1 - p.1 := w64 (by omega) (by omega)
              rw [wd]
              by_cases c1 : p.1 + (p.2.1.length : Int) < x.1
              · rw [decide_eq_false (show ¬ x.1 - p.1 ≤ (p.2.1.length : Int) by omega), decide_eq_true c1, Bool.true_and]
                exact t
              · rw [decide_eq_true (show x.1 - p.1 ≤ (p.2.1.length : Int) by omega), decide_eq_false c1]
                rfl
        · rw [decide_eq_true (show x.1 > 1048576 by omega), decide_eq_false c2]
          simp
    · obtain rfl : i = s.length := by omega
      rw [decide_eq_false (show ¬ (s.length : Int) < (s.length : Int) by omega), List.drop_length]
      rfl
theorem rgood_is (k B : Nat) (s : List Hk) (hs : s.length ≤ 1099511627776) (hB : B ≤ 1099511627776) (hk : B < k) (hk2 : s.length < k) (hl : Lim B s) (hat : ∀ h ∈ s, -9223372036854775808 ≤ h.1 ∧ h.1 ≤ 9223372036854775807) : R23 (k + 1) s = some (goodB (-1) s) := by
  rw [u23]
  unfold r23
  have e : J23_0 k k (s, 0) = _ := rgood_loop k B s hs hB hk hl hat k 0 (-1) (by omega) (by omega) (.inl ⟨rfl, rfl⟩)
  rw [List.drop_zero] at e
  rw [e, Option.bind_some]
  cases goodB (-1) s <;> rfl
theorem rtoks_w (k : Nat) (mode : Int) (s : List Hk) (i : Int) (l : List (List Int)) (hl : l.length ≤ 1099511627776) (hb : ∀ t ∈ l, t.length < k + 6 ∧ t.length ≤ 1099511627776) : ∀ (m j : Nat) (out : List Int), l.length - j < m → j ≤ l.length → out.length + (toksB (l.drop j)).length ≤ 1099511627776 →
    iter (F13_1 (R22 (k + 7)) (R23 (k + 7)) (R24 (k + 7)) (R25 (k + 7))) m (mode, s, i, (j : Int), out, l) = some (bif fitB mode (l.drop j) then .inl (mode, s, i, (l.length : Int), out ++ toksB (l.drop j), l) else .inr ([], 1)) := by
  intro m
  induction m with
  | zero => intro j out h; omega
  | succ m ihm =>
    intro j out hm hj ho
    show F13_1 _ _ _ _ (iter (F13_1 _ _ _ _) m) _ = _
    unfold F13_1
    simp only
    by_cases h : j < l.length
    · have hd : l.drop j = l[j] :: l.drop (j + 1) := List.drop_eq_getElem_cons h
      have h2 : (0 ≤ (j : Int) ∧ (j : Int) < (l.length : Int)) := ⟨by omega, by omega⟩
      have ec : toksB (l.drop j) = tokB l[j] ++ toksB (l.drop (j + 1)) := by rw [hd]; rfl
      have ef : fitB mode (l.drop j) = ((isTok mode l[j] && decide (l[j].length ≤ 1048576)) && fitB mode (l.drop (j + 1))) := by rw [hd]; rfl
      rw [ec] at ho
      rw [ec, ef]
      rw [List.length_append] at ho
      have hbj := hb l[j] (List.getElem_mem h)
      have hx : (tokB l[j]).length = (dg l[j].length).length + l[j].length + 2 := by unfold tokB; simp; omega
      have ih := ihm (j + 1) (out ++ tokB l[j]) (by omega) h (by rw [List.length_append]; omega)
      have et : tokB l[j] = dg l[j].length ++ 58 :: (l[j] ++ [10]) := rfl
      rw [decide_eq_true (show (j : Int) < (l.length : Int) by omega), cond_true, if_pos h2, getD_l l h, succ_i h hl]
      generalize l[j] = x at *
      rw [refIs_is (k + 6) mode x hbj.2 (by omega), Option.bind_some]
      cases isTok mode x with
      | false => rfl
      | true =>
        rw [if_pos h2, if_pos h2]
        by_cases c : x.length ≤ 1048576
        · obtain ⟨ds, e1, e2⟩ := Digits8 k x.length c
          have sz : ds.size = (dg x.length).length := by rw [size_eq, e2]
          have z1 : (⟨#[58]⟩ : ByteArray).size = 1 := rfl
          have b1 : strBytes (ds ++ ⟨#[58]⟩) = dg x.length ++ [58] := by rw [strBytes_app, e2]; rfl
          rw [decide_eq_false (show ¬ (x.length : Int) > 1048576 by omega), decide_eq_true c, e1, Option.bind_some, b1]
          have l20 := dg_len x.length
          rw [if_pos (show ds.size + (⟨#[58]⟩ : ByteArray).size ≤ 140737488355328 by rw [sz, z1]; omega)]
          rw [if_pos (by simp only [List.length_append, List.length_cons, List.length_nil]; omega), if_pos h2, if_pos (by simp only [List.length_append, List.length_cons, List.length_nil]; omega), if_pos (by simp only [List.length_append, List.length_cons, List.length_nil]; omega)]
          have e3 : out ++ (dg x.length ++ [58]) ++ x ++ [10] = out ++ tokB x := by rw [et]; simp
          rw [e3]
          refine ih.trans ?_
          simp
        · rw [decide_eq_true (show (x.length : Int) > 1048576 by omega), decide_eq_false c]
          rfl
    · obtain rfl : j = l.length := by omega
      rw [decide_eq_false (show ¬ (l.length : Int) < (l.length : Int) by omega), List.drop_length]
      simp [toksB, fitB]
theorem fitB_app (mode : Int) (a b : List (List Int)) : fitB mode (a ++ b) = (fitB mode a && fitB mode b) := by
  unfold fitB
  rw [List.all_append]
theorem toksB_app (a b : List (List Int)) : toksB (a ++ b) = toksB a ++ toksB b := by
  unfold toksB
  simp
theorem tok_le {l : List (List Int)} {t : List Int} (h : t ∈ l) : t.length ≤ (toksB l).length := by
  induction l with
  | nil => cases h
  | cons x l ih =>
    have e : (toksB (x :: l)).length = (tokB x).length + (toksB l).length := by simp [toksB]
    have e2 : (tokB x).length = (dg x.length).length + x.length + 2 := by unfold tokB; simp; omega
    rcases List.mem_cons.1 h with rfl | h
    · omega
    · have := ih h; omega
theorem renc_loop (k : Nat) (mode : Int) (s : List Hk) (hs : s.length ≤ 1099511627776) (hb : BytH s) (hB : (hunksB s).length ≤ 1073741824) (hk : (hunksB s).length < k) (ha : ∀ h ∈ s, 0 ≤ h.1 ∧ h.1 ≤ 1048576) : ∀ (m i : Nat) (out : List Int), s.length - i < m → i ≤ s.length → out.length + (hunksB (s.drop i)).length ≤ 1073741900 →
    iter (F13_0 (R22 (k + 7)) (R23 (k + 7)) (R24 (k + 7)) (R25 (k + 7)) (J13_1 (k + 7) (k + 7))) m (mode, s, (i : Int), out) = some (bif fitsB mode (s.drop i) then .inl (mode, s, (s.length : Int), out ++ hunksB (s.drop i)) else .inr ([], 1)) := by
  intro m
  induction m with
  | zero => intro i out h; omega
  | succ m ihm =>
    intro i out hm hi ho
    show F13_0 _ _ _ _ _ (iter (F13_0 _ _ _ _ _) m) _ = _
    unfold F13_0
    simp only
    by_cases h : i < s.length
    · have hd : s.drop i = s[i] :: s.drop (i + 1) := List.drop_eq_getElem_cons h
      have h2 : (0 ≤ (i : Int) ∧ (i : Int) < (s.length : Int)) := ⟨by omega, by omega⟩
      have hbi := hb s[i] (List.getElem_mem h)
      have hai := ha s[i] (List.getElem_mem h)
      have hli := (hunks_len s).2 s[i] (List.getElem_mem h)
      have ec : hunksB (s.drop i) = hunkB s[i] ++ hunksB (s.drop (i + 1)) := by rw [hd]; rfl
      have ih := ihm (i + 1) (out ++ hunkB s[i]) (by omega) h (by rw [ec, List.length_append] at ho; rw [List.length_append]; omega)
      have ef : fitsB mode (s.drop i) = (((decide (s[i].2.1.length ≤ 1048576) && fitB mode s[i].2.1) && (decide (s[i].2.2.length ≤ 1048576) && fitB mode s[i].2.2)) && fitsB mode (s.drop (i + 1))) := by rw [hd]; rfl
      rw [ec, List.length_append] at ho
      rw [ec, ef]
      have hsub : (hunkB s[i]).length ≤ (hunksB s).length := by
        have : hunksB s = hunksB (s.take i) ++ hunksB (s.drop i) := by
          unfold hunksB
          rw [← List.flatten_append, ← List.map_append, List.take_append_drop]
        rw [this, List.length_append, ec, List.length_append]
        omega
      have eh : hunkB s[i] = 64 :: (dg s[i].1.toNat ++ 32 :: (dg s[i].2.1.length ++ 32 :: (dg s[i].2.2.length ++ [10]))) ++ (toksB s[i].2.1 ++ toksB s[i].2.2) := rfl
      have el := congrArg List.length eh
      have l1 := toks_len s[i].2.1
      have l2 := toks_len s[i].2.2
      simp only [List.length_append, List.length_cons, List.length_nil] at el
      rw [decide_eq_true (show (i : Int) < (s.length : Int) by omega), cond_true, if_pos h2, getD_l s h]
      generalize s[i] = x at *
      rw [if_pos (by simp only [List.length_nil]; omega), if_pos h2, if_pos (by simp only [List.length_append, List.length_nil]; omega), if_pos h2, List.nil_append]
      by_cases c1 : x.2.1.length ≤ 1048576
      · rw [decide_eq_false (show ¬ (x.2.1.length : Int) > 1048576 by omega), decide_eq_true c1, Bool.true_and, if_pos h2]
        by_cases c2 : x.2.2.length ≤ 1048576
        · rw [decide_eq_false (show ¬ (x.2.2.length : Int) > 1048576 by omega), decide_eq_true c2, Bool.true_and, if_pos h2]
          obtain ⟨a, ea⟩ : ∃ a : Nat, x.1 = (a : Int) := ⟨x.1.toNat, by omega⟩
          rw [ea, Int.toNat_natCast] at eh el
          rw [ea]
          obtain ⟨d1, p1, q1⟩ := Digits8 k a (by omega)
          obtain ⟨d2, p2, q2⟩ := Digits8 k x.2.1.length c1
          obtain ⟨d3, p3, q3⟩ := Digits8 k x.2.2.length c2
          have s1 : d1.size = (dg a).length := by rw [size_eq, q1]
          have s2 : d2.size = (dg x.2.1.length).length := by rw [size_eq, q2]
          have s3 : d3.size = (dg x.2.2.length).length := by rw [size_eq, q3]
          have m1 := dg_len a
          have m2 := dg_len x.2.1.length
          have m3 := dg_len x.2.2.length
          have z1 : (⟨#[64]⟩ : ByteArray).size = 1 := rfl
          have z2 : (⟨#[32]⟩ : ByteArray).size = 1 := rfl
          have z3 : (⟨#[10]⟩ : ByteArray).size = 1 := rfl
          rw [p1, Option.bind_some]
          rw [if_pos (show (⟨#[64]⟩ : ByteArray).size + d1.size ≤ 140737488355328 by rw [z1, s1]; omega)]
          rw [if_pos (show ((⟨#[64]⟩ : ByteArray) ++ d1).size + (⟨#[32]⟩ : ByteArray).size ≤ 140737488355328 by rw [ByteArray.size_append, z1, z2, s1]; omega)]
          rw [if_pos h2, p2, Option.bind_some]
          rw [if_pos (show ((⟨#[64]⟩ : ByteArray) ++ d1 ++ ⟨#[32]⟩).size + d2.size ≤ 140737488355328 by rw [ByteArray.size_append, ByteArray.size_append, z1, z2, s1, s2]; omega)]
          rw [if_pos (show ((⟨#[64]⟩ : ByteArray) ++ d1 ++ ⟨#[32]⟩ ++ d2).size + (⟨#[32]⟩ : ByteArray).size ≤ 140737488355328 by rw [ByteArray.size_append, ByteArray.size_append, ByteArray.size_append, z1, z2, s1, s2]; omega)]
          rw [if_pos h2, p3, Option.bind_some]
          rw [if_pos (show ((⟨#[64]⟩ : ByteArray) ++ d1 ++ ⟨#[32]⟩ ++ d2 ++ ⟨#[32]⟩).size + d3.size ≤ 140737488355328 by rw [ByteArray.size_append, ByteArray.size_append, ByteArray.size_append, ByteArray.size_append, z1, z2, s1, s2, s3]; omega)]
          rw [if_pos (show ((⟨#[64]⟩ : ByteArray) ++ d1 ++ ⟨#[32]⟩ ++ d2 ++ ⟨#[32]⟩ ++ d3).size + (⟨#[10]⟩ : ByteArray).size ≤ 140737488355328 by rw [ByteArray.size_append, ByteArray.size_append, ByteArray.size_append, ByteArray.size_append, ByteArray.size_append, z1, z2, z3, s1, s2, s3]; omega)]
          have sb : strBytes ((⟨#[64]⟩ : ByteArray) ++ d1 ++ ⟨#[32]⟩ ++ d2 ++ ⟨#[32]⟩ ++ d3 ++ ⟨#[10]⟩) = 64 :: (dg a ++ 32 :: (dg x.2.1.length ++ 32 :: (dg x.2.2.length ++ [10]))) := by
            simp only [strBytes_app, q1, q2, q3]
            have y1 : strBytes (⟨#[64]⟩ : ByteArray) = [64] := rfl
            have y2 : strBytes (⟨#[32]⟩ : ByteArray) = [32] := rfl
            have y3 : strBytes (⟨#[10]⟩ : ByteArray) = [10] := rfl
            rw [y1, y2, y3]
            simp
          rw [sb]
          rw [if_pos (by simp only [List.length_append, List.length_cons, List.length_nil]; omega)]
          have tl : (x.2.1 ++ x.2.2).length = x.2.1.length + x.2.2.length := List.length_append
          have tt := rtoks_w k mode s (i : Int) (x.2.1 ++ x.2.2) (by omega) (fun t ht => by
            rcases List.mem_append.1 ht with ht | ht
            · have := tok_le ht; omega
            · have := tok_le ht; omega) (k + 7) 0 (out ++ 64 :: (dg a ++ 32 :: (dg x.2.1.length ++ 32 :: (dg x.2.2.length ++ [10])))) (by omega) (by omega) (by rw [List.drop_zero, toksB_app]; simp only [List.length_append, List.length_cons, List.length_nil]; omega)
          rw [List.drop_zero, fitB_app, toksB_app] at tt
          have tt' : J13_1 (k + 7) (k + 7) (mode, s, (i : Int), 0, out ++ 64 :: (dg a ++ 32 :: (dg x.2.1.length ++ 32 :: (dg x.2.2.length ++ [10]))), x.2.1 ++ x.2.2) = _ := tt
          simp only [beq_self_eq_true, cond_true, cond_false]
          rw [tt', Option.bind_some]
          cases fitB mode x.2.1 && fitB mode x.2.2 with
          | false => rfl
          | true =>
            simp only [cond_true, onSum, Bool.true_and, succ_i h hs]
            have e2 : out ++ 64 :: (dg a ++ 32 :: (dg x.2.1.length ++ 32 :: (dg x.2.2.length ++ [10]))) ++ (toksB x.2.1 ++ toksB x.2.2) = out ++ hunkB x := by rw [eh]; simp
            rw [e2]
            refine ih.trans ?_
            simp
        · rw [decide_eq_true (show (x.2.2.length : Int) > 1048576 by omega), decide_eq_false c2]
          simp
      · rw [decide_eq_true (show (x.2.1.length : Int) > 1048576 by omega), decide_eq_false c1]
        simp
    · obtain rfl : i = s.length := by omega
      rw [decide_eq_false (show ¬ (s.length : Int) < (s.length : Int) by omega), List.drop_length]
      simp [hunksB, fitsB]
theorem rename_is (k : Nat) (mode : Int) : R22 (k + 1) mode = some (if mode = 0 then ⟨#[98, 121, 116, 101, 115]⟩ else if mode = 1 then ⟨#[108, 105, 110, 101, 115]⟩ else ⟨#[]⟩) := by
  rw [u22]
  unfold r22
  by_cases m0 : mode = 0
  · simp only [decide_eq_true m0, cond_true, if_pos m0]
  · by_cases m1 : mode = 1
    · simp only [decide_eq_false m0, cond_false, decide_eq_true m1, cond_true, if_neg m0, if_pos m1]
    · simp only [decide_eq_false m0, cond_false, decide_eq_false m1, if_neg m0, if_neg m1]
/-- THE REFERENCE's ENCODE. -/
theorem REncode_is (k : Nat) (mode : Int) (s : List Hk) (hb : BytH s) (hB : (hunksB s).length ≤ 1073741824) (hk : (hunksB s).length < k) (hat : ∀ h ∈ s, -9223372036854775808 ≤ h.1 ∧ h.1 ≤ 9223372036854775807) :
    ((mode = 0 ∨ mode = 1) ∧ hunksOk mode (-1) s ∧ R13 (k + 8) mode s = some (encS mode s, 0)) ∨ (¬ ((mode = 0 ∨ mode = 1) ∧ hunksOk mode (-1) s) ∧ R13 (k + 8) mode s = some ([], 1)) := by
  obtain ⟨l1, l2⟩ := hunks_len s
  rw [u13]
  unfold r13
  rw [rename_is (k + 6) mode, rgood_is (k + 6) (hunksB s).length s (by omega) (by omega) (by omega) (by omega) l2 hat]
  have bad : goodB (-1) s = false → ¬ ((mode = 0 ∨ mode = 1) ∧ hunksOk mode (-1) s) := fun h ⟨_, h2⟩ => by
    have := ((ok_iff mode s (-1) (by omega)).2 h2).1
    rw [h] at this
    cases this
  have main : ∀ (nm : ByteArray), (mode = 0 ∨ mode = 1) → strEq nm ⟨#[]⟩ = false → nm.size = 5 → strBytes ((⟨#[116, 97, 116, 116, 105, 110, 103, 32, 49, 32]⟩ : ByteArray) ++ nm ++ (⟨#[10]⟩ : ByteArray)) = hd mode →
      ((mode = 0 ∨ mode = 1) ∧ hunksOk mode (-1) s ∧ r13 (fun _ => some nm) (fun _ => some (goodB (-1) s)) (R24 (k + 7)) (R25 (k + 7)) (J13_0 (k + 7) (k + 7)) (J13_1 (k + 7) (k + 7)) mode s = some (encS mode s, 0)) ∨
      (¬ ((mode = 0 ∨ mode = 1) ∧ hunksOk mode (-1) s) ∧ r13 (fun _ => some nm) (fun _ => some (goodB (-1) s)) (R24 (k + 7)) (R25 (k + 7)) (J13_0 (k + 7) (k + 7)) (J13_1 (k + 7) (k + 7)) mode s = some ([], 1)) := by
    intro nm hm h1 h2 h3
    unfold r13
    simp only [h1, beq_self_eq_true, cond_true, Option.bind_some]
    cases hg : goodB (-1) s with
    | false =>
      right
      exact ⟨bad hg, rfl⟩
    | true =>
      have hat2 := good_at s (-1) (by omega) hg
      simp only [Bool.not_true, cond_false]
      rw [if_pos (by rw [h2]; decide), if_pos (by rw [ByteArray.size_append, h2]; decide), if_pos (by rw [ByteArray.size_append, ByteArray.size_append, h2]; decide), h3]
      have e : J13_0 (k + 7) (k + 7) (mode, s, 0, hd mode) = _ := renc_loop k mode s (by omega) hb hB hk hat2 (k + 7) 0 (hd mode) (by omega) (by omega) (by rw [List.drop_zero, hd_len]; omega)
      rw [List.drop_zero] at e
      rw [e]
      cases hf : fitsB mode s with
      | false =>
        right
        refine ⟨fun ⟨_, hh⟩ => ?_, rfl⟩
        have := ((ok_iff mode s (-1) (by omega)).2 hh).2
        rw [hf] at this
        cases this
      | true =>
        left
        refine ⟨hm, (ok_iff mode s (-1) (by omega)).1 ⟨hg, hf⟩, ?_⟩
        simp only [cond_true, Option.bind_some, onSum]
        rw [if_pos (by simp only [List.length_append, hd_len, List.length_cons, List.length_nil]; omega)]
        unfold encS
        simp
  by_cases m0 : mode = 0
  · subst m0
    rw [if_pos rfl]
    exact main ⟨#[98, 121, 116, 101, 115]⟩ (.inl rfl) rfl rfl rfl
  · by_cases m1 : mode = 1
    · subst m1
      rw [if_neg (by decide), if_pos rfl]
      exact main ⟨#[108, 105, 110, 101, 115]⟩ (.inr rfl) rfl rfl rfl
    · right
      refine ⟨fun h => by omega, ?_⟩
      rw [if_neg m0, if_neg m1]
      rfl
end Go.Proofs.YtdhbnblpkodhjaaDoor.ECodedWrites
