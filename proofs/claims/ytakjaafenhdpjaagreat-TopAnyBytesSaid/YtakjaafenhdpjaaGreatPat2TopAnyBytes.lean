import Derived.Test.YtakjaafenhdpjaaGreatPatTopAnyBytes
namespace Go.Proofs.YtakjaafenhdpjaaGreat.ETopAnyBytes
open Go Go.Proofs.YtakjaafenhdpjaaGreat.AE Go.Proofs.YtakjaafenhdpjaaGreat
set_option linter.unusedVariables false
set_option linter.unusedSimpArgs false
/-! Tokens joined; more of them behind others. -/
theorem join_loop (l : List (List Int)) (hl : l.length ≤ 1099511627776) : ∀ (m i : Nat) (acc : List Int), l.length - i < m → i ≤ l.length → acc.length + (l.drop i).flatten.length ≤ 1099511627776 →
    iter F31_0 m (l, (l.length : Int), (i : Int), acc) = some (.inl (l, (l.length : Int), (l.length : Int), acc ++ (l.drop i).flatten))
  | 0, i, acc, h, _, _ => by omega
  | m + 1, i, acc, h, hi, ha => by
    show F31_0 (iter F31_0 m) _ = _
    unfold F31_0
    simp only
    by_cases hq : i < l.length
    · have hd : l.drop i = l[i] :: l.drop (i + 1) := List.drop_eq_getElem_cons hq
      have h2 : (0 ≤ (i : Int) ∧ (i : Int) < (l.length : Int)) := ⟨by omega, by omega⟩
      rw [hd, List.flatten_cons, List.length_append] at ha
      simp only [decide_eq_true (show (i : Int) < (l.length : Int) by omega), cond_true, if_pos h2, getD_l l hq, succ_i hq hl]
      rw [if_pos (show (acc.length + l[i].length) * 1 ≤ 140737488355328 ∧ acc.length + l[i].length ≤ 140737488355328 by omega)]
      refine (join_loop l hl m (i + 1) (acc ++ l[i]) (by omega) hq (by rw [List.length_append]; omega)).trans ?_
      rw [hd, List.flatten_cons, List.append_assoc]
    · obtain rfl : i = l.length := by omega
      simp only [decide_eq_false (show ¬ (l.length : Int) < (l.length : Int) by omega), cond_false, List.drop_length, List.flatten_nil, List.append_nil]
theorem Join_is (k : Nat) (l : List (List Int)) (hl : l.length ≤ 1099511627776) (hf : l.flatten.length ≤ 1099511627776) (hk : l.length < k) : R31 (k + 1) l = some l.flatten := by
  rw [u31]
  unfold r31
  have e : J31_0 k k (l, (l.length : Int), 0, []) = _ := join_loop l hl k 0 [] (by omega) (Nat.zero_le _) (by simpa using hf)
  simp only [e, Option.bind_some, onSum, List.nil_append, List.drop_zero]
/-- Tokens' weight: how many, and how many bytes. -/
def wt (l : List (List Int)) : Nat := l.length + l.flatten.length
theorem wt_app (a b : List (List Int)) : wt (a ++ b) = wt a + wt b := by
  unfold wt
  rw [List.length_append, List.flatten_append, List.length_append]
  omega
theorem wt_split (l : List (List Int)) (n : Nat) : wt (l.take n) + wt (l.drop n) = wt l := by rw [← wt_app, List.take_append_drop]
theorem wt_mem {l : List (List Int)} {t : List Int} (h : t ∈ l) : t.length ≤ wt l := by
  induction l with
  | nil => cases h
  | cons x l ih =>
    have e : wt (x :: l) = 1 + x.length + wt l := by unfold wt; rw [List.flatten_cons, List.length_append, List.length_cons]; omega
    rcases List.mem_cons.1 h with rfl | h
    · omega
    · have := ih h; omega
theorem wt_len (l : List (List Int)) : l.length ≤ wt l ∧ l.flatten.length ≤ wt l := by unfold wt; omega
theorem more_loop (k : Nat) (t : List (List Int)) (ht : wt t ≤ 1099511627776) : ∀ (m i : Nat) (acc : List (List Int)), t.length - i < m → i ≤ t.length → acc.length + (t.length - i) ≤ 4398046511104 →
    iter (F33_0 (R68 (k + 1))) m (t, (t.length : Int), (i : Int), acc) = some (.inl (t, (t.length : Int), (t.length : Int), acc ++ t.drop i))
  | 0, i, acc, h, _, _ => by omega
  | m + 1, i, acc, h, hi, ha => by
    show F33_0 _ (iter (F33_0 _) m) _ = _
    unfold F33_0
    simp only
    have htl := (wt_len t).1
    by_cases hq : i < t.length
    · have hd : t.drop i = t[i] :: t.drop (i + 1) := List.drop_eq_getElem_cons hq
      have h2 : (0 ≤ (i : Int) ∧ (i : Int) < (t.length : Int)) := ⟨by omega, by omega⟩
      have hm := wt_mem (List.getElem_mem hq)
      simp only [decide_eq_true (show (i : Int) < (t.length : Int) by omega), cond_true, if_pos h2, getD_l t hq, succ_i hq (show t.length ≤ 1099511627776 by omega)]
      rw [clone_is k _ (by omega), Option.bind_some, if_pos (by rw [List.length_singleton]; omega)]
      refine (more_loop k t ht m (i + 1) (acc ++ [t[i]]) (by omega) hq (by rw [List.length_append, List.length_singleton]; omega)).trans ?_
      rw [hd, List.append_assoc]
      rfl
    · obtain rfl : i = t.length := by omega
      simp only [decide_eq_false (show ¬ (t.length : Int) < (t.length : Int) by omega), cond_false, List.drop_length, List.append_nil]
theorem more_is (k : Nat) (t acc : List (List Int)) (ht : wt t ≤ 1099511627776) (ha : acc.length ≤ 1099511627776) (hk : t.length < k) : R33 (k + 2) t acc = some (acc ++ t) := by
  rw [u33]
  unfold r33
  have htl := (wt_len t).1
  have e : J33_0 (k + 1) (k + 1) (t, (t.length : Int), 0, acc) = _ := more_loop k t ht (k + 1) 0 acc (by omega) (Nat.zero_le _) (by omega)
  simp only [e, Option.bind_some, onSum, List.drop_zero]
/-! Whether tokens stand there. -/
abbrev By (l : List (List Int)) : Prop := ∀ t ∈ l, ∀ x ∈ t, 0 ≤ x ∧ x ≤ 255
theorem eqb_is (k : Nat) (x y : List Int) (hx : ∀ a ∈ x, 0 ≤ a ∧ a ≤ 255) (hy : ∀ a ∈ y, 0 ≤ a ∧ a ≤ 255) : R106 (k + 1) x y = some (decide (x = y)) := by
  rw [u106]
  unfold r106
  simp only [strEq_bytes hx hy]
theorem eqf_loop (k : Nat) (a b : List (List Int)) (hl : a.length = b.length) (hb : a.length ≤ 1099511627776) (ha : By a) (hb2 : By b) : ∀ (m i : Nat), a.length - i < m → i ≤ a.length →
    iter (F108_0 (R106 (k + 1))) m (b, a, (a.length : Int), (i : Int)) = some (bif decide (a.drop i = b.drop i) then .inl (b, a, (a.length : Int), (a.length : Int)) else .inr false)
  | 0, i, h, _ => by omega
  | m + 1, i, h, hi => by
    show F108_0 _ (iter (F108_0 _) m) _ = _
    unfold F108_0
    simp only
    by_cases hq : i < a.length
    · have hq2 : i < b.length := by omega
      have hd : a.drop i = a[i] :: a.drop (i + 1) := List.drop_eq_getElem_cons hq
      have hd2 : b.drop i = b[i] :: b.drop (i + 1) := List.drop_eq_getElem_cons hq2
      have h2 : (0 ≤ (i : Int) ∧ (i : Int) < (a.length : Int)) := ⟨by omega, by omega⟩
      have h3 : (0 ≤ (i : Int) ∧ (i : Int) < (b.length : Int)) := ⟨by omega, by omega⟩
      simp only [decide_eq_true (show (i : Int) < (a.length : Int) by omega), cond_true, if_pos h2, if_pos h3, getD_l a hq, getD_l b hq2, succ_i hq hb]
      rw [eqb_is k _ _ (ha _ (List.getElem_mem hq)) (hb2 _ (List.getElem_mem hq2)), Option.bind_some, hd, hd2]
      by_cases c : a[i] = b[i]
      · simp only [decide_eq_true c, Bool.not_true, cond_false]
        refine (eqf_loop k a b hl hb ha hb2 m (i + 1) (by omega) hq).trans ?_
        have : (a[i] :: a.drop (i + 1) = b[i] :: b.drop (i + 1)) ↔ a.drop (i + 1) = b.drop (i + 1) := ⟨fun h => (List.cons.inj h).2, fun h => by rw [c, h]⟩
        rw [show decide (a[i] :: a.drop (i + 1) = b[i] :: b.drop (i + 1)) = decide (a.drop (i + 1) = b.drop (i + 1)) from decide_eq_decide.2 this]
      · simp only [decide_eq_false c, Bool.not_false, cond_true]
        rw [decide_eq_false (show ¬ (a[i] :: a.drop (i + 1) = b[i] :: b.drop (i + 1)) from fun h => c (List.cons.inj h).1), cond_false]
    · obtain rfl : i = a.length := by omega
      rw [decide_eq_false (show ¬ (a.length : Int) < (a.length : Int) by omega), cond_false, List.drop_length, List.drop_of_length_le (by omega), decide_eq_true rfl, cond_true]
theorem eqf_is (k : Nat) (a b : List (List Int)) (hb : a.length ≤ 1099511627776) (ha : By a) (hb2 : By b) (hk : a.length < k) :
    R108 (k + 2) a b = some (decide (a = b)) := by
  rw [u108]
  unfold r108
  by_cases hl : a.length = b.length
  · have e : J108_0 (k + 1) (k + 1) (b, a, (a.length : Int), 0) = _ := eqf_loop k a b hl hb ha hb2 (k + 1) 0 (by omega) (Nat.zero_le _)
    simp only [decide_eq_true (show (a.length : Int) = (b.length : Int) by omega), Bool.not_true, cond_false, e, Option.bind_some, List.drop_zero]
    by_cases c : a = b
    · rw [decide_eq_true c]; rfl
    · rw [decide_eq_false c]; rfl
  · simp only [decide_eq_false (show ¬ (a.length : Int) = (b.length : Int) by omega), Bool.not_false, cond_true]
    rw [decide_eq_false (fun h => hl (congrArg List.length h))]
def standB (a old : List (List Int)) (n : Nat) : Bool := decide (n + old.length ≤ a.length) && decide ((a.drop n).take old.length = old)
theorem stands_is (k : Nat) (a old : List (List Int)) (n : Nat) (hn : n ≤ 1099511627776) (hla : a.length ≤ 1099511627776) (hlo : old.length ≤ 1099511627776) (ha : By a) (ho : By old) (hk : old.length < k) :
    R69 (k + 3) a old (n : Int) = some (standB a old n) := by
  rw [u69]
  unfold r69 standB
  simp only
  by_cases c1 : n ≤ a.length
  · rw [decide_eq_true (show (n : Int) ≤ (a.length : Int) by omega), beq_self_eq_true, cond_true, w64 (show -9223372036854775808 ≤ (a.length : Int) - (n : Int) by omega) (by omega)]
    by_cases c2 : n + old.length ≤ a.length
    · rw [decide_eq_true (show (old.length : Int) ≤ (a.length : Int) - (n : Int) by omega), beq_self_eq_true, cond_true, w64 (show -9223372036854775808 ≤ (n : Int) + (old.length : Int) by omega) (by omega), if_pos (by omega)]
      have e : (n : Int) + (old.length : Int) = ((n + old.length : Nat) : Int) := by omega
      rw [e, gcut_mid, show n + old.length - n = old.length by omega]
      have hlen : ((a.drop n).take old.length).length = old.length := by rw [List.length_take, List.length_drop]; omega
      rw [eqf_is k _ _ (by rw [hlen]; exact hlo) (fun t ht => ha t (List.mem_of_mem_drop (List.mem_of_mem_take ht))) ho (by rw [hlen]; exact hk), Option.bind_some, decide_eq_true c2, Bool.true_and]
    · rw [decide_eq_false (show ¬ (old.length : Int) ≤ (a.length : Int) - (n : Int) by omega), decide_eq_false c2]
      rfl
  · rw [decide_eq_false (show ¬ (n : Int) ≤ (a.length : Int) by omega), decide_eq_false (show ¬ n + old.length ≤ a.length by omega)]
    rfl
/-! A script done. -/
def appL (a : List (List Int)) : List Hk → Nat → List (List Int) → Option (Nat × List (List Int))
  | [], i, acc => some (i, acc)
  | h :: s, i, acc => if standB a h.2.1 h.1.toNat then appL a s (h.1.toNat + h.2.1.length) (acc ++ (a.drop i).take (h.1.toNat - i) ++ h.2.2) else none
/-- The weight of what comes, and of what goes. -/
def swt : List Hk → Nat
  | [] => 0
  | h :: s => 1 + wt h.2.1 + wt h.2.2 + swt s
abbrev ByS (s : List Hk) : Prop := ∀ h ∈ s, By h.2.1 ∧ By h.2.2
theorem stand_le {a old : List (List Int)} {n : Nat} (h : standB a old n = true) : n + old.length ≤ a.length := by
  unfold standB at h
  simp only [Bool.and_eq_true, decide_eq_true_eq] at h
  exact h.1
end Go.Proofs.YtakjaafenhdpjaaGreat.ETopAnyBytes
