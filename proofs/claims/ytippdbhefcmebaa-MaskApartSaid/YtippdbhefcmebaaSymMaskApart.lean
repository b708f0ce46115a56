import Derived.Test.YtippdbhefcmebaaR5MaskApart
import Derived.Test.YtippdbhefcmebaaMaskX2
namespace Go.Proofs.Ytippdbhefcmebaa.EMaskApart
open Go Go.Proofs.Ytippdbhefcmebaa.AE Go.Proofs.Ytippdbhefcmebaa.VecMath Go.Proofs.Ytippdbhefcmebaa.MaskX
set_option linter.unusedVariables false
set_option linter.unusedSimpArgs false
/-! tattingref5.Symbols tells the numbers of a list, each once, rising. -/
/-- Where a number goes. -/
def posU (x : Int) : List Int → Nat
  | [] => 0
  | y :: l => if y < x then posU x l + 1 else 0
theorem posU_le (x : Int) : ∀ l, posU x l ≤ l.length
  | [] => Nat.le_refl _
  | y :: l => by
    unfold posU
    split
    · have := posU_le x l; simp; omega
    · simp
theorem posU_lt (x : Int) : ∀ l j, j < posU x l → l.getD j 0 < x
  | [], j, h => by simp [posU] at h
  | y :: l, j, h => by
    unfold posU at h
    split at h
    · rename_i hy
      cases j with
      | zero => simpa using hy
      | succ j => simpa using posU_lt x l j (by omega)
    · omega
theorem posU_at (x : Int) : ∀ l, posU x l < l.length → ¬ l.getD (posU x l) 0 < x
  | [], h => by simp at h
  | y :: l, h => by
    unfold posU at h ⊢
    split
    · rename_i hy
      rw [if_pos hy] at h
      simpa using posU_at x l (by simpa using h)
    · rename_i hy; simpa using hy
theorem insU_pos (x : Int) : ∀ l, insU x l = if posU x l < l.length ∧ l.getD (posU x l) 0 = x then l else l.take (posU x l) ++ [x] ++ l.drop (posU x l)
  | [] => by simp [insU, posU]
  | y :: l => by
    have ih := insU_pos x l
    unfold insU posU
    by_cases h1 : x < y
    · have h2 : ¬ y < x := by omega
      have h3 : ¬ y = x := by omega
      simp [h1, h2, h3]
    · by_cases h2 : x = y
      · subst h2; simp
      · have h3 : y < x := by omega
        rw [if_neg h1, if_neg h2, if_pos h3, ih]
        by_cases h4 : posU x l < l.length ∧ l.getD (posU x l) 0 = x
        · rw [if_pos h4, if_pos ⟨by rw [List.length_cons]; omega, h4.2⟩]
        · rw [if_neg h4, if_neg (fun h5 => h4 ⟨by have h6 := h5.1; rw [List.length_cons] at h6; omega, h5.2⟩)]
          simp
def putAll : List Int → List Int → List Int
  | [], o => o
  | x :: l, o => putAll l (insU x o)
theorem putAll_take (b : List Int) (i : Nat) (hi : i < b.length) (o : List Int) : putAll (b.drop i) o = putAll (b.drop (i + 1)) (insU (b.getD i 0) o) := by
  rw [List.drop_eq_getElem_cons hi]
  rw [List.getD_eq_getElem?_getD, List.getElem?_eq_getElem hi]
  rfl
theorem putAll_mem (z : Int) : ∀ l o, z ∈ putAll l o ↔ z ∈ l ∨ z ∈ o
  | [], o => by simp [putAll]
  | x :: l, o => by
    rw [putAll, putAll_mem z l, mem_insU, List.mem_cons]
    constructor
    · rintro (h | h | h) <;> simp [h]
    · rintro ((h | h) | h) <;> simp [h]
theorem putAll_rise : ∀ l o, List.Pairwise (· < ·) o → List.Pairwise (· < ·) (putAll l o)
  | [], o, h => h
  | x :: l, o, h => putAll_rise l _ (insU_rise x o h)
theorem putAll_syms (b : List Int) : putAll b [] = symsOf b :=
  rise_eq _ _ (putAll_rise b [] List.Pairwise.nil) (symsOf_rise b) fun z => by rw [putAll_mem, mem_symsOf]; simp
theorem insU_len (x : Int) (l : List Int) : (insU x l).length ≤ l.length + 1 := by
  rw [insU_pos]
  split
  · omega
  · have := posU_le x l
    simp
    omega
theorem find_loop (b : List Int) (j : Nat) (hj : j < b.length) (o : List Int) (ho : o.length ≤ 1048576) (n : Nat) : ∀ (m i : Nat), i ≤ posU (b.getD j 0) o → posU (b.getD j 0) o - i < m →
    J17_0 n m (b, (j : Int), (i : Int), o) = some (.inl (b, (j : Int), ((posU (b.getD j 0) o : Nat) : Int), o))
  | 0, i, _, h => by omega
  | m + 1, i, hi, h => by
    rw [j17_0]
    unfold F17_0
    have hle := posU_le (b.getD j 0) o
    have hjb : (0 : Int) ≤ (j : Int) ∧ (j : Int) < (b.length : Int) := by omega
    dsimp only
    by_cases c : i < o.length
    · have hio : (0 : Int) ≤ (i : Int) ∧ (i : Int) < (o.length : Int) := by omega
      rw [decide_eq_true (show (i : Int) < (o.length : Int) by omega)]
      simp only [BEq.rfl, cond_true, if_pos hio, if_pos hjb, Int.toNat_natCast]
      by_cases c2 : i < posU (b.getD j 0) o
      · have e4 : IntKind.wrap .i64 ((i : Int) + 1) = ((i + 1 : Nat) : Int) := by rw [w64 (by omega) (by omega)]; rfl
        rw [decide_eq_true (posU_lt _ _ _ c2), cond_true, e4]
        exact find_loop b j hj o ho n m (i + 1) (by omega) (by omega)
      · have : i = posU (b.getD j 0) o := by omega
        rw [this] at c ⊢
        rw [decide_eq_false (posU_at _ _ c), cond_false]
    · rw [decide_eq_false (show ¬ (i : Int) < (o.length : Int) by omega)]
      have : i = posU (b.getD j 0) o := by omega
      rw [this]
      rfl
theorem cut_to {α : Type} (l : List α) (k : Nat) : cut l 0 (k : Int) = l.take k := by simp [cut]
theorem cut_from {α : Type} (l : List α) (k : Nat) : cut l (k : Int) (l.length : Int) = l.drop k := by simp [cut]
theorem syms_loop (b : List Int) (hb : b.length ≤ 1048576) (n : Nat) (hn : b.length < n) : ∀ (m i : Nat) (o : List Int), i ≤ b.length → b.length - i < m → o.length ≤ i →
    ∃ z, J17_1 n m (b, (i : Int), o) = some (.inl z) ∧ z.2.2 = putAll (b.drop i) o
  | 0, i, o, _, h, _ => by omega
  | m + 1, i, o, hi, h, ho => by
    rw [j17_1]
    unfold F17_1
    dsimp only
    by_cases c : i < b.length
    · have hle := posU_le (b.getD i 0) o
      have hf := find_loop b i c o (by omega) n n 0 (by omega) (by omega)
      have hf' : J17_0 n n (b, (i : Int), 0, o) = _ := hf
      have e4 : IntKind.wrap .i64 ((i : Int) + 1) = ((i + 1 : Nat) : Int) := by rw [w64 (by omega) (by omega)]; rfl
      have hib : (0 : Int) ≤ (i : Int) ∧ (i : Int) < (b.length : Int) := by omega
      have hrec := syms_loop b hb n hn m (i + 1) (insU (b.getD i 0) o) (by omega) (by omega) (by have := insU_len (b.getD i 0) o; omega)
      rw [← putAll_take b i c o] at hrec
      have hnew : ∀ k : Nat, k ≤ o.length → (0 : Int) ≤ 0 ∧ (0 : Int) ≤ (k : Int) ∧ (k : Int) ≤ (o.length : Int) := fun k hk => by omega
      have hnew2 : ∀ k : Nat, k ≤ o.length → (0 : Int) ≤ (k : Int) ∧ (k : Int) ≤ (o.length : Int) ∧ (o.length : Int) ≤ (o.length : Int) := fun k hk => by omega
      rw [insU_pos] at hrec
      rw [decide_eq_true (show (i : Int) < (b.length : Int) by omega), cond_true, hf']
      simp only [Option.bind_some, onSum, e4, Int.toNat_natCast, if_pos hib]
      generalize posU (b.getD i 0) o = p at *
      simp only [if_pos (hnew p hle), if_pos (hnew2 p hle), cut_to, cut_from, List.nil_append, List.length_append, List.length_take, List.length_drop, List.length_cons, List.length_nil]
      have l1 : (0 + min p o.length) * 8 ≤ 140737488355328 ∧ 0 + min p o.length ≤ 140737488355328 := by omega
      have l2 : (min p o.length + (0 + 1)) * 8 ≤ 140737488355328 ∧ min p o.length + (0 + 1) ≤ 140737488355328 := by omega
      have l3 : (min p o.length + (0 + 1) + (o.length - p)) * 8 ≤ 140737488355328 ∧ min p o.length + (0 + 1) + (o.length - p) ≤ 140737488355328 := by omega
      simp only [if_pos l1, if_pos l2, if_pos l3]
      by_cases c2 : p < o.length
      · have hpo : (0 : Int) ≤ (p : Int) ∧ (p : Int) < (o.length : Int) := by omega
        rw [decide_eq_false (show ¬ (p : Int) = (o.length : Int) by omega)]
        simp only [BEq.rfl, cond_true, if_pos hpo]
        by_cases c3 : o.getD p 0 = b.getD i 0
        · rw [if_pos ⟨c2, c3⟩] at hrec
          simp only [decide_eq_true c3, Bool.not_true, cond_false]
          exact hrec
        · rw [if_neg (fun h5 => c3 h5.2)] at hrec
          simp only [decide_eq_false c3, Bool.not_false, cond_true]
          exact hrec
      · rw [if_neg (fun h5 => c2 h5.1)] at hrec
        rw [decide_eq_true (show (p : Int) = (o.length : Int) by omega)]
        exact hrec
    · rw [decide_eq_false (show ¬ (i : Int) < (b.length : Int) by omega), cond_false]
      have : i = b.length := by omega
      subst this
      refine ⟨_, rfl, ?_⟩
      simp [putAll]
theorem syms_is (k : Nat) (b : List Int) (hb : b.length ≤ 1048576) (hk : b.length < k) : R17 (k + 1) b = some (symsOf b) := by
  rw [u17]
  unfold r17
  obtain ⟨z, hz, h1⟩ := syms_loop b hb k hk k 0 [] (by omega) (by omega) (by simp)
  have hz' : J17_1 k k (b, 0, []) = some (.inl z) := hz
  rw [hz']
  simp only [Option.bind_some, onSum, h1, List.drop_zero, putAll_syms]
theorem ints_loop (l : List Int) (hl : l.length ≤ 1048577) (n : Nat) : ∀ (m i : Nat), i ≤ l.length → l.length - i < m → ∃ z, J16_0 n m (l, l, (i : Int)) = some (.inl z)
  | 0, i, _, h => by omega
  | m + 1, i, hi, h => by
    rw [j16_0]
    unfold F16_0
    simp only
    by_cases c : i < l.length
    · have e1 : IntKind.wrap .i64 ((i : Int) + 1) = ((i + 1 : Nat) : Int) := by rw [w64 (by omega) (by omega)]; rfl
      rw [decide_eq_true (show (i : Int) < (l.length : Int) by omega), cond_true, if_pos (by omega), if_pos (by omega)]
      simp only [decide_true, Bool.not_true, cond_false, e1]
      exact ints_loop l hl n m (i + 1) (by omega) (by omega)
    · rw [decide_eq_false (show ¬ (i : Int) < (l.length : Int) by omega), cond_false]
      exact ⟨_, rfl⟩
theorem ints_self (k : Nat) (l : List Int) (hl : l.length ≤ 1048577) (hk : l.length < k) : R16 (k + 1) l l = some true := by
  rw [u16]
  unfold r16
  obtain ⟨z, hz⟩ := ints_loop l hl k k 0 (by omega) (by omega)
  have hz' : J16_0 k k (l, l, 0) = some (.inl z) := hz
  simp [hz', onSum]
theorem symsOf_len : ∀ b : List Int, (symsOf b).length ≤ b.length
  | [] => Nat.le_refl _
  | x :: l => by
    have h1 := symsOf_len l
    have h2 := insU_len x (symsOf l)
    rw [symsOf, List.length_cons]; omega
end Go.Proofs.Ytippdbhefcmebaa.EMaskApart
