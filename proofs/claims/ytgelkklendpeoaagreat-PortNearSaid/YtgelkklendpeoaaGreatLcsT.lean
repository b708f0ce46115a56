namespace Go.Proofs.YtgelkklendpeoaaGreat.Lcs
set_option linter.unusedVariables false
/-! How long a list may be that both have in common. -/
def lcs : List Int → List Int → Nat
  | [], _ => 0
  | _ :: _, [] => 0
  | x :: a, y :: b => if x = y then lcs a b + 1 else max (lcs a (y :: b)) (lcs (x :: a) b)
termination_by a b => a.length + b.length
theorem lcs_nil (b : List Int) : lcs [] b = 0 := by rw [lcs]
theorem lcs_nil2 : ∀ a : List Int, lcs a [] = 0
  | [] => by rw [lcs]
  | _ :: _ => by rw [lcs]
theorem lcs_cons (x y : Int) (a b : List Int) : lcs (x :: a) (y :: b) = if x = y then lcs a b + 1 else max (lcs a (y :: b)) (lcs (x :: a) b) := by rw [lcs]
theorem sub_tail {z x : Int} {s a : List Int} (h : (z :: s).Sublist (x :: a)) : s.Sublist a := by
  cases h with
  | cons _ h => exact (List.sublist_cons_self z s).trans h
  | cons_cons _ h => exact h
theorem lcs_ge : ∀ (n : Nat) (a b s : List Int), a.length + b.length ≤ n → s.Sublist a → s.Sublist b → s.length ≤ lcs a b
  | _, [], b, s, _, h, _ => by rw [List.sublist_nil.1 h]; simp
  | _, x :: a, [], s, _, _, h => by rw [List.sublist_nil.1 h]; simp
  | 0, x :: a, y :: b, s, hn, _, _ => by simp at hn
  | n + 1, x :: a, y :: b, s, hn, h, k => by
    simp only [List.length_cons] at hn
    rw [lcs_cons]
    cases s with
    | nil => simp
    | cons z s =>
      by_cases e : x = y
      · rw [if_pos e, List.length_cons]
        have := lcs_ge n a b s (by omega) (sub_tail h) (sub_tail k)
        omega
      · rw [if_neg e]
        cases h with
        | cons _ h =>
          have := lcs_ge n a (y :: b) (z :: s) (by simp only [List.length_cons]; omega) h k
          omega
        | cons_cons _ h =>
          cases k with
          | cons _ k =>
            have := lcs_ge n (x :: a) b (x :: s) (by simp only [List.length_cons]; omega) (h.cons_cons x) k
            omega
          | cons_cons _ k => exact absurd rfl e
theorem lcs_ex : ∀ (n : Nat) (a b : List Int), a.length + b.length ≤ n → ∃ s : List Int, s.Sublist a ∧ s.Sublist b ∧ s.length = lcs a b
  | _, [], b, _ => ⟨[], List.nil_sublist _, List.nil_sublist _, by rw [lcs_nil]; rfl⟩
  | _, x :: a, [], _ => ⟨[], List.nil_sublist _, List.nil_sublist _, by rw [lcs_nil2]; rfl⟩
  | 0, x :: a, y :: b, hn => by simp at hn
  | n + 1, x :: a, y :: b, hn => by
    simp only [List.length_cons] at hn
    rw [lcs_cons]
    by_cases e : x = y
    · obtain ⟨s, h1, h2, h3⟩ := lcs_ex n a b (by omega)
      refine ⟨x :: s, h1.cons_cons x, by rw [← e]; exact h2.cons_cons x, ?_⟩
      rw [if_pos e, List.length_cons, h3]
    · rw [if_neg e]
      rcases Nat.le_total (lcs a (y :: b)) (lcs (x :: a) b) with hle | hle
      · obtain ⟨s, h1, h2, h3⟩ := lcs_ex n (x :: a) b (by simp only [List.length_cons]; omega)
        exact ⟨s, h1, h2.cons y, by rw [h3, Nat.max_eq_right hle]⟩
      · obtain ⟨s, h1, h2, h3⟩ := lcs_ex n a (y :: b) (by simp only [List.length_cons]; omega)
        exact ⟨s, h1.cons x, h2, by rw [h3, Nat.max_eq_left hle]⟩
theorem lcs_rev_le (a b : List Int) : lcs a b ≤ lcs a.reverse b.reverse := by
  obtain ⟨s, h1, h2, h3⟩ := lcs_ex _ a b (Nat.le_refl _)
  rw [← h3, ← List.length_reverse]
  exact lcs_ge _ _ _ _ (Nat.le_refl _) (List.reverse_sublist.2 h1) (List.reverse_sublist.2 h2)
theorem lcs_rev (a b : List Int) : lcs a.reverse b.reverse = lcs a b := by
  have h1 := lcs_rev_le a b
  have h2 := lcs_rev_le a.reverse b.reverse
  rw [List.reverse_reverse, List.reverse_reverse] at h2
  omega
/-- The table from the front. -/
def tabF (a b : List Int) (i j : Nat) : Nat := lcs (a.take i).reverse (b.take j).reverse
/-- The table from behind. -/
def tabB (a b : List Int) (i j : Nat) : Nat := lcs (a.drop i) (b.drop j)
theorem tabF_corner (a b : List Int) : tabF a b a.length b.length = lcs a b := by
  rw [tabF, List.take_length, List.take_length, lcs_rev]
theorem tabF_turn (a b : List Int) (i j : Nat) (hi : i ≤ a.length) (hj : j ≤ b.length) : tabB a.reverse b.reverse (a.length - i) (b.length - j) = tabF a b i j := by
  rw [tabB, tabF, List.drop_reverse, List.drop_reverse]
  rw [show a.length - (a.length - i) = i by omega, show b.length - (b.length - j) = j by omega]
theorem tabF_zero (a b : List Int) (j : Nat) : tabF a b 0 j = 0 := by rw [tabF, List.take_zero]; exact lcs_nil _
theorem tabF_zero2 (a b : List Int) (i : Nat) : tabF a b i 0 = 0 := by rw [tabF, List.take_zero]; exact lcs_nil2 _
theorem tabF_succ (a b : List Int) (i j : Nat) (hi : i < a.length) (hj : j < b.length) : tabF a b (i + 1) (j + 1) = if a[i] = b[j] then tabF a b i j + 1 else max (tabF a b i (j + 1)) (tabF a b (i + 1) j) := by
  have e1 : (a.take (i + 1)).reverse = a[i] :: (a.take i).reverse := by
    rw [List.take_add_one, List.getElem?_eq_getElem hi, Option.toList_some, List.reverse_append]; rfl
  have e2 : (b.take (j + 1)).reverse = b[j] :: (b.take j).reverse := by
    rw [List.take_add_one, List.getElem?_eq_getElem hj, Option.toList_some, List.reverse_append]; rfl
  unfold tabF
  rw [e1, e2, lcs_cons]
theorem tabB_end (a b : List Int) (j : Nat) : tabB a b a.length j = 0 := by rw [tabB, List.drop_length]; exact lcs_nil _
theorem tabB_end2 (a b : List Int) (i : Nat) : tabB a b i b.length = 0 := by rw [tabB, List.drop_length]; exact lcs_nil2 _
theorem tabB_succ (a b : List Int) (i j : Nat) (hi : i < a.length) (hj : j < b.length) : tabB a b i j = if a[i] = b[j] then tabB a b (i + 1) (j + 1) + 1 else max (tabB a b (i + 1) j) (tabB a b i (j + 1)) := by
  have e1 : a.drop i = a[i] :: a.drop (i + 1) := List.drop_eq_getElem_cons hi
  have e2 : b.drop j = b[j] :: b.drop (j + 1) := List.drop_eq_getElem_cons hj
  unfold tabB
  rw [e1, e2, lcs_cons]
theorem lcs_le (a b : List Int) : lcs a b ≤ a.length := by
  obtain ⟨s, h1, _, h3⟩ := lcs_ex _ a b (Nat.le_refl _)
  rw [← h3]
  exact h1.length_le
theorem lcs_le2 (a b : List Int) : lcs a b ≤ b.length := by
  obtain ⟨s, _, h1, h3⟩ := lcs_ex _ a b (Nat.le_refl _)
  rw [← h3]
  exact h1.length_le
end Go.Proofs.YtgelkklendpeoaaGreat.Lcs
