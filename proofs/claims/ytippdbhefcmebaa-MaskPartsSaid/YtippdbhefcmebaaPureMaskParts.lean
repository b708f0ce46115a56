import Derived.Test.YtippdbhefcmebaaVecMaskParts
import Derived.Test.YtippdbhefcmebaaMaskX2
namespace Go.Proofs.Ytippdbhefcmebaa.EMaskParts
open Go Go.Proofs.Ytippdbhefcmebaa.AE Go.Proofs.Ytippdbhefcmebaa.VecMath Go.Proofs.Ytippdbhefcmebaa.MaskX
set_option linter.unusedVariables false
set_option linter.unusedSimpArgs false
/-! Numbers brought to a few. -/
theorem few_loop (a : List Int) (ha : a.length ≤ 1048576) (n : Nat) : ∀ (m i : Nat) (o : List Int), i ≤ a.length → a.length - i < m → o.length = i → (∀ x ∈ o, 0 ≤ x ∧ x ≤ 8) →
    ∃ z, J18_0 n m (a, 9, (i : Int), o) = some (.inl z) ∧ z.2.2.2.length = a.length ∧ ∀ x ∈ z.2.2.2, 0 ≤ x ∧ x ≤ 8
  | 0, i, o, _, h, _, _ => by omega
  | m + 1, i, o, hi, h, hl, ho => by
    rw [j18_0]
    unfold F18_0
    dsimp only
    by_cases c : i < a.length
    · have hin : (0 : Int) ≤ (i : Int) ∧ (i : Int) < (a.length : Int) := by omega
      have hsz : ∀ v : Int, (o.length + [v].length) * 8 ≤ 140737488355328 ∧ o.length + [v].length ≤ 140737488355328 := fun v => by simp only [List.length_cons, List.length_nil]; omega
      have hr1 : (a.getD i 0).tmod 9 < 9 := Int.tmod_lt_of_pos _ (by decide)
      have hr2 : -9 < (a.getD i 0).tmod 9 := by
        have := Int.tmod_lt_of_pos (-(a.getD i 0)) (show (0 : Int) < 9 by decide)
        rw [Int.neg_tmod] at this
        omega
      rw [decide_eq_true (show (i : Int) < (a.length : Int) by omega), cond_true, if_pos hin, if_neg (by decide), Int.toNat_natCast, inc (by omega)]
      generalize (a.getD i 0).tmod 9 = v at hr1 hr2
      have step : ∀ u : Int, 0 ≤ u ∧ u ≤ 8 → ∃ z, J18_0 n m (a, 9, ((i + 1 : Nat) : Int), o ++ [u]) = some (.inl z) ∧ z.2.2.2.length = a.length ∧ ∀ x ∈ z.2.2.2, 0 ≤ x ∧ x ≤ 8 := fun u hu =>
        few_loop a ha n m (i + 1) (o ++ [u]) (by omega) (by omega) (by simp [hl]) fun x hx => by
          rcases List.mem_append.1 hx with hx | hx
          · exact ho x hx
          · simp at hx; subst hx; exact hu
      by_cases hv : v < 0
      · have e : IntKind.wrap .i64 (v + 9) = v + 9 := w64 (by omega) (by omega)
        rw [decide_eq_true hv, cond_true, e, if_pos (hsz _)]
        exact step _ (by omega)
      · rw [decide_eq_false hv, cond_false, if_pos (hsz _)]
        exact step _ (by omega)
    · rw [decide_eq_false (show ¬ (i : Int) < (a.length : Int) by omega), cond_false]
      exact ⟨_, rfl, by simp only; omega, ho⟩
theorem few_is (k : Nat) (a : List Int) (ha : a.length ≤ 1048576) (hk : a.length < k) : ∃ y, R18 (k + 1) a 9 = some y ∧ y.length = a.length ∧ ∀ x ∈ y, 0 ≤ x ∧ x ≤ 8 := by
  rw [u18]
  unfold r18
  obtain ⟨z, hz, h1, h2⟩ := few_loop a ha k k 0 [] (by omega) (by omega) rfl (by simp)
  have hz' : J18_0 k k (a, 9, 0, []) = some (.inl z) := hz
  rw [hz']
  exact ⟨_, rfl, h1, h2⟩
/-- The places of the first so many numbers. -/
def part (y s : List Int) (i : Nat) : Nat := numB (fun j => decide (y.getD j 0 ∈ s.take i)) y.length
theorem part_zero (y s : List Int) : part y s 0 = 0 := by
  unfold part
  apply Nat.eq_of_testBit_eq
  intro i
  rw [numB_bit]
  simp
theorem part_bit (y s : List Int) (i j : Nat) : (part y s i).testBit j = (decide (j < y.length) && decide (y.getD j 0 ∈ s.take i)) := numB_bit _ _ _
theorem mk_bit (y : List Int) (x : Int) (j : Nat) : (mkB y x y.length).testBit j = (decide (j < y.length) && decide (y.getD j 0 = x)) := by rw [← numB_mk, numB_bit]
theorem take_mem (s : List Int) (i : Nat) (hi : i < s.length) (v : Int) : v ∈ s.take (i + 1) ↔ v ∈ s.take i ∨ v = s.getD i 0 := by
  rw [List.take_add_one, List.mem_append, List.getD_eq_getElem?_getD, List.getElem?_eq_getElem hi]
  simp
theorem part_succ (y s : List Int) (i : Nat) (hi : i < s.length) : part y s (i + 1) = part y s i ||| mkB y (s.getD i 0) y.length := by
  apply Nat.eq_of_testBit_eq
  intro j
  rw [Nat.testBit_or, part_bit, part_bit, mk_bit]
  by_cases h : j < y.length
  · simp only [h, decide_true, Bool.true_and]
    rw [Bool.eq_iff_iff]
    simp only [decide_eq_true_eq, Bool.or_eq_true]
    exact take_mem s i hi _
  · simp [h]
theorem cnt_or (A B : Nat) : ∀ n, (∀ j, j < n → ¬ (A.testBit j = true ∧ B.testBit j = true)) → cnt (A ||| B) n = cnt A n + cnt B n
  | 0, _ => rfl
  | n + 1, h => by
    have ih := cnt_or A B n fun j hj => h j (by omega)
    have h1 := h n (by omega)
    show cnt (A ||| B) n + ((A ||| B).testBit n).toNat = cnt A n + (A.testBit n).toNat + (cnt B n + (B.testBit n).toNat)
    rw [ih, Nat.testBit_or]
    cases ha : A.testBit n <;> cases hb : B.testBit n
    · simp
    · simp; omega
    · simp; omega
    · exact absurd ⟨ha, hb⟩ h1
theorem cnt_ones (w : Nat) : ∀ j, j ≤ w → cnt (2 ^ w - 1) j = j
  | 0, _ => rfl
  | j + 1, h => by
    show cnt _ j + ((2 ^ w - 1).testBit j).toNat = j + 1
    rw [cnt_ones w j (by omega), Nat.testBit_two_pow_sub_one]
    simp
    omega
theorem rise_not (s : List Int) (hs : List.Pairwise (· < ·) s) (i : Nat) (hi : i < s.length) : s.getD i 0 ∉ s.take i := by
  intro h
  obtain ⟨j, hj, e⟩ := List.getElem_of_mem h
  simp at hj
  have := List.pairwise_iff_getElem.1 hs j i (by omega) hi (by omega)
  rw [List.getD_eq_getElem?_getD, List.getElem?_eq_getElem hi] at e
  simp at e
  omega
theorem part_lt (y s : List Int) (i : Nat) : part y s i < 2 ^ y.length := numB_lt _ _
theorem of_ (k : Nat) (b : List Int) (y : Int) : R9 (k + 1) b y = maskOf (b, y) := rfl
theorem parts_loop (y : List Int) (hy : y.length ≤ 150) (hw : ∀ x ∈ y, inI64 x = true) (s : List Int) (hs : List.Pairwise (· < ·) s) (hsub : ∀ x ∈ s, x ∈ y) (hsl : s.length ≤ y.length) (k : Nat) (hk : 200 ≤ k) : ∀ (m i : Nat) (all : List Int) (n : Int), i ≤ s.length → s.length - i < m →
    OK all → val all = part y s i → (i = 0 → all = []) → (0 < i → all.length = (y.length + 63) / 64) → n = (cnt (part y s i) y.length : Int) →
    ∃ z, J6_0 (k + 4) m (y, y, all, n, s, (i : Int)) = some (.inl z) ∧ z.1 = y ∧ OK z.2.2.1 ∧ val z.2.2.1 = part y s s.length ∧ (s = [] → z.2.2.1 = []) ∧ (s ≠ [] → z.2.2.1.length = (y.length + 63) / 64) ∧ z.2.2.2.1 = (cnt (part y s s.length) y.length : Int)
  | 0, i, all, n, _, h, _, _, _, _, _ => by omega
  | m + 1, i, all, n, hi, h, hOK, hval, h0, hlen, hn => by
    rw [j6_0]
    unfold F6_0
    dsimp only
    by_cases c : i < s.length
    · have hin : (0 : Int) ≤ (i : Int) ∧ (i : Int) < (s.length : Int) := by omega
      have hx : s.getD i 0 ∈ s := by
        rw [List.getD_eq_getElem?_getD, List.getElem?_eq_getElem c]
        exact List.getElem_mem _
      have hM := maskOf_is y (s.getD i 0) (by omega) (hw _ (hsub _ hx))
      have hMlt : mkB y (s.getD i 0) y.length < 2 ^ (64 * ((y.length + 63) / 64)) := by
        rw [← numB_mk]
        exact Nat.lt_of_lt_of_le (numB_lt _ _) (Nat.pow_le_pow_right (by decide) (by omega))
      have hvM := val_lay_lt hMlt
      have hcl := cnt_le (part y s (i + 1)) y.length
      have hdis : cnt (part y s (i + 1)) y.length = cnt (part y s i) y.length + cnt (mkB y (s.getD i 0) y.length) y.length := by
        rw [part_succ y s i c, cnt_or]
        intro j hj ⟨h1, h2⟩
        rw [part_bit] at h1
        rw [mk_bit] at h2
        simp only [Bool.and_eq_true, decide_eq_true_eq] at h1 h2
        exact rise_not s hs i c (h2.2 ▸ h1.2)
      have hor := or_is (k + 2) all (lay (mkB y (s.getD i 0) y.length) ((y.length + 63) / 64)) hOK (lay_OK _ _) (by
        rcases Nat.eq_zero_or_pos i with e | e
        · rw [h0 e]; simp
        · rw [hlen e]; omega) (by rw [lay_length]; omega) (by
        rw [lay_length]
        rcases Nat.eq_zero_or_pos i with e | e
        · rw [h0 e]; simp; omega
        · rw [hlen e]; omega)
      rw [hvM, hval, ← part_succ y s i c, lay_length] at hor
      have hmax : max all.length ((y.length + 63) / 64) = (y.length + 63) / 64 := by
        rcases Nat.eq_zero_or_pos i with e | e
        · rw [h0 e]; simp
        · rw [hlen e]; exact Nat.max_self _
      rw [hmax] at hor
      have hplt : part y s (i + 1) < 2 ^ (64 * ((y.length + 63) / 64)) := Nat.lt_of_lt_of_le (part_lt y s (i + 1)) (Nat.pow_le_pow_right (by decide) (by omega))
      have next := parts_loop y hy hw s hs hsub hsl k hk m (i + 1) (lay (part y s (i + 1)) ((y.length + 63) / 64)) (cnt (part y s (i + 1)) y.length : Int) (by omega) (by omega) (lay_OK _ _) (val_lay_lt hplt) (fun h => by omega) (fun _ => lay_length _ _) rfl
      rw [decide_eq_true (show (i : Int) < (s.length : Int) by omega), cond_true, if_pos hin, Int.toNat_natCast, of_ (k + 3), hM]
      simp only [Option.bind_some]
      rw [lay_length, vwords (k + 2) y.length (by omega)]
      simp only [Option.bind_some, decide_true, Bool.not_true, BEq.rfl, cond_true]
      have hcount := count_is k (lay (mkB y (s.getD i 0) y.length) ((y.length + 63) / 64)) (lay_OK _ _) y.length (by omega) (by omega)
      rw [hvM] at hcount
      have hsum : IntKind.wrap .i64 (n + (cnt (mkB y (s.getD i 0) y.length) y.length : Int)) = (cnt (part y s (i + 1)) y.length : Int) := by
        rw [hn, hdis, w64 (by omega) (by omega), Int.natCast_add]
      by_cases hi0 : (i : Int) > 0
      · have e1 : IntKind.wrap .i64 ((i : Int) - 1) = ((i - 1 : Nat) : Int) := by rw [w64 (by omega) (by omega)]; omega
        have hin1 : (0 : Int) ≤ ((i - 1 : Nat) : Int) ∧ ((i - 1 : Nat) : Int) < (s.length : Int) := by omega
        have hlt : ¬ s.getD i 0 ≤ s.getD (i - 1) 0 := by
          have := List.pairwise_iff_getElem.1 hs (i - 1) i (by omega) c (by omega)
          rw [List.getD_eq_getElem?_getD, List.getElem?_eq_getElem c, List.getD_eq_getElem?_getD, List.getElem?_eq_getElem (show i - 1 < s.length by omega)]
          simp
          exact this
        rw [decide_eq_true hi0]
        simp only [BEq.rfl, cond_true, if_pos hin, e1, if_pos hin1, Int.toNat_natCast, decide_eq_false hlt, cond_false, hcount, Option.bind_some, hsum, hor, inc (show i ≤ 1048576 by omega)]
        exact next
      · rw [decide_eq_false hi0]
        simp only [hcount, Option.bind_some, hsum, hor, inc (show i ≤ 1048576 by omega)]
        exact next
    · rw [decide_eq_false (show ¬ (i : Int) < (s.length : Int) by omega), cond_false]
      have : i = s.length := by omega
      subst this
      refine ⟨_, rfl, rfl, hOK, hval, fun e => h0 (by rw [e]; rfl), fun e => hlen (List.length_pos_iff.2 e), hn⟩
theorem awake : R8 1300 () = some true := by kernel_rfl
theorem part_all (y : List Int) : part y (symsOf y) (symsOf y).length = 2 ^ y.length - 1 := by
  apply Nat.eq_of_testBit_eq
  intro j
  rw [part_bit, Nat.testBit_two_pow_sub_one, List.take_length]
  by_cases h : j < y.length
  · have : y.getD j 0 ∈ symsOf y := by
      rw [mem_symsOf, List.getD_eq_getElem?_getD, List.getElem?_eq_getElem h]
      exact List.getElem_mem _
    rw [decide_eq_true h, decide_eq_true this]; rfl
  · rw [decide_eq_false h]; rfl
theorem symsOf_len : ∀ b : List Int, (symsOf b).length ≤ b.length
  | [] => Nat.le_refl _
  | x :: l => by
    have h1 := symsOf_len l
    have h2 : ∀ m : List Int, (insU x m).length ≤ m.length + 1 := by
      intro m
      induction m with
      | nil => simp [insU]
      | cons y m ih => unfold insU; split <;> (try split) <;> simp <;> omega
    have := h2 (symsOf l)
    rw [symsOf, List.length_cons]; omega
theorem law (b : List Int) (w0 : WF (.slice (.int .i64)) b) : R6 1301 b = some true := by
  rw [u6]
  unfold r6
  dsimp only
  rw [awake]
  simp only [Option.bind_some, Bool.not_true, cond_false]
  by_cases hb : (b.length : Int) > 150
  · rw [decide_eq_true hb]; rfl
  · obtain ⟨y, hfew, hyl, hyb⟩ := few_is 1299 b (by omega) (by omega)
    rw [decide_eq_false hb, cond_false, hfew]
    simp only [Option.bind_some]
    have hy : y.length ≤ 150 := by omega
    have hw : ∀ x ∈ y, inI64 x = true := fun x hx => by
      have := hyb x hx
      simp [inI64]
      omega
    have hnew : R7 1300 y = some y := by
      show maskNew y = some y
      unfold maskNew
      rw [if_pos]
      simp only [Bool.and_eq_true, decide_eq_true_eq, List.all_eq_true]
      exact ⟨by omega, hw⟩
    have hsy : R12 1300 y = some (symsOf y) := rfl
    have hsl := symsOf_len y
    obtain ⟨z, hz, h1, h2, h3, h4, h5, h6⟩ := parts_loop y hy hw (symsOf y) (symsOf_rise y) (fun x hx => (mem_symsOf x y).1 hx) hsl 1296 (by omega) 1300 0 [] 0 (by omega) (by omega) (by intro x hx; cases hx) (by rw [part_zero]; rfl) (fun _ => rfl) (fun h => by omega) (by
      rw [part_zero]
      have : ∀ n, cnt 0 n = 0 := by
        intro n
        induction n with
        | zero => rfl
        | succ n ih => show cnt 0 n + _ = 0; rw [ih]; simp
      rw [this]; rfl)
    have hz' : J6_0 1300 1300 (y, y, [], 0, symsOf y, 0) = some (.inl z) := hz
    rw [hnew]
    simp only [Option.bind_some, hsy]
    rw [hz']
    rw [part_all] at h3 h6
    rw [cnt_ones y.length y.length (Nat.le_refl _)] at h6
    simp only [Option.bind_some, onSum, h1, h6, decide_true, BEq.rfl, cond_true]
    rw [ones_is 1296 y.length (by omega) (by omega)]
    simp only [Option.bind_some]
    have hall : z.2.2.1 = lay (2 ^ y.length - 1) ((y.length + 63) / 64) := by
      have hlen : z.2.2.1.length = (y.length + 63) / 64 := by
        by_cases hs : symsOf y = []
        · have : y = [] := by
            cases y with
            | nil => rfl
            | cons a l => exact absurd ((mem_symsOf a (a :: l)).2 (by simp)) (by rw [hs]; simp)
          rw [h4 hs, this]; rfl
        · exact h5 hs
      rw [← h3, ← hlen, lay_val h2]
    rw [hall, same_self 1299 _ (by rw [lay_length]; omega) (by rw [lay_length]; omega)]
    rfl
theorem law_run (a0 : List Int) (w0 : WF (.slice (.int .i64)) a0) : runHow E (evalF E 1300) 1300 s6 a0 h6 = some true :=
  (law_R 1300 a0).trans (law a0 w0)
end Go.Proofs.Ytippdbhefcmebaa.EMaskParts
