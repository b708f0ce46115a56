import Derived.Test.YtbbbcdfagmcfgaaR5WalkRuns
import Derived.Test.YtbbbcdfagmcfgaaVecSpecWid
import Derived.Test.YtbbbcdfagmcfgaaVecSpecAt
import Derived.Test.YtbbbcdfagmcfgaaRowN
namespace Go.Proofs.Ytbbbcdfagmcfgaa.EWalkRuns
open Go Go.Proofs.Ytbbbcdfagmcfgaa.AE Go.Proofs.Ytbbbcdfagmcfgaa.VecMath
set_option linter.unusedVariables false
set_option linter.unusedSimpArgs false
/-! What vec's functions come to. -/
theorem getD_set (z : List Int) (i j : Nat) (v : Int) (hi : i < z.length) : (z.set i v).getD j 0 = if j = i then v else z.getD j 0 := by
  rw [List.getD_eq_getElem?_getD, List.getElem?_set]
  by_cases h : i = j
  · subst h; rw [if_pos rfl, if_pos hi, if_pos rfl]; rfl
  · rw [if_neg h, if_neg (fun e => h e.symm), List.getD_eq_getElem?_getD]
theorem filled {g : Nat → Int} {n : Nat} {z : List Int} (hl : z.length = n) (h : ∀ j, j < n → z.getD j 0 = g j) : z = (List.range n).map g := by
  apply List.ext_getElem
  · simp [hl]
  · intro j h1 h2
    have := h j (by omega)
    rw [List.getD_eq_getElem?_getD, List.getElem?_eq_getElem h1] at this
    simpa using this
theorem vat (k : Nat) (x : List Int) (i : Nat) : R49 (k + 1) x (i : Int) = some (x.getD i 0) := by
  rw [u49]
  unfold r49
  dsimp only
  by_cases h : i < x.length
  · rw [decide_eq_true (show (i : Int) < (x.length : Int) by omega), cond_true, if_pos (by omega), Int.toNat_natCast]
  · rw [decide_eq_false (show ¬ (i : Int) < (x.length : Int) by omega), cond_false, List.getD_eq_getElem?_getD, List.getElem?_eq_none (by omega)]
    rfl
theorem vwidth (k : Nat) (n : Nat) (hn : n ≤ 1048576) : R44 (k + 1) (n : Int) = some (n : Int) := by
  rw [u44]
  unfold r44
  dsimp only
  rw [if_neg (show ¬ (0 : Int) > (n : Int) by omega), if_neg (show ¬ (1048576 : Int) < (n : Int) by omega)]
theorem vwords (k : Nat) (n : Nat) (hn : n ≤ 1048576) : R31 (k + 2) (n : Int) = some (((n + 63) / 64 : Nat) : Int) := by
  rw [u31]
  unfold r31
  rw [vwidth k n hn]
  simp only [Option.bind_some]
  have e1 : IntKind.wrap .i64 ((n : Int) + 64) = (n : Int) + 64 := w64 (by omega) (by omega)
  have e2 : IntKind.wrap .i64 ((n : Int) + 64 - 1) = (n : Int) + 63 := by rw [w64 (by omega) (by omega)]; omega
  have e3 : IntKind.wrap .i64 (((n : Int) + 63) / 64) = (((n + 63) / 64 : Nat) : Int) := by rw [w64 (by omega) (by omega)]; omega
  rw [e1, e2, Int.tdiv_eq_ediv_of_nonneg (by omega), e3, if_neg neg64]
theorem vmask (k : Nat) (n i : Nat) (hn : n ≤ 1048576) (hi : 64 * i < n) : R50 (k + 2) (n : Int) (i : Int) = some (wd (2 ^ n - 1) i : Int) := by
  rw [u50]
  unfold r50
  rw [vwidth k n hn]
  simp only [Option.bind_some]
  have e1 : IntKind.wrap .i64 ((64 : Int) * (i : Int)) = ((64 * i : Nat) : Int) := by rw [w64 (by omega) (by omega)]; omega
  have e2 : IntKind.wrap .i64 ((n : Int) - ((64 * i : Nat) : Int)) = ((n - 64 * i : Nat) : Int) := by rw [w64 (by omega) (by omega)]; omega
  rw [e1, e2, VecSpec.wd_ones]
  by_cases h : 64 ≤ n - 64 * i
  · rw [decide_eq_true (show ((n - 64 * i : Nat) : Int) ≥ 64 by omega), cond_true, Nat.min_eq_left h]
    rfl
  · rw [decide_eq_false (show ¬ ((n - 64 * i : Nat) : Int) ≥ 64 by omega), cond_false, Nat.min_eq_right (show n - 64 * i ≤ 64 by omega)]
    generalize hc : n - 64 * i = c at h
    have hc64 : c < 64 := by omega
    have f1 : IntKind.wrap .u64 (c : Int) = (c : Int) := wu64 (by omega) (by omega)
    have f2 : min c (IntKind.bits .u64) = c := Nat.min_eq_left (by show c ≤ 64; omega)
    have hp : 2 ^ c < 2 ^ 64 := Nat.pow_lt_pow_right (by decide) hc64
    have hp0 : 0 < 2 ^ c := Nat.two_pow_pos c
    have f3 : (1 : Int) * 2 ^ c = ((2 ^ c : Nat) : Int) := by rw [Int.one_mul, Int.natCast_pow]; rfl
    rw [f1, if_neg (by omega), Int.toNat_natCast, f2, f3]
    generalize 2 ^ c = Q at hp hp0
    have f4 : IntKind.wrap .u64 (Q : Int) = (Q : Int) := wu64 (by omega) (by omega)
    have f5 : IntKind.wrap .u64 ((Q : Int) - 1) = ((Q - 1 : Nat) : Int) := by rw [wu64 (by omega) (by omega)]; omega
    rw [f4, f5]
theorem and_word {a b : Nat} (ha : a < 2 ^ 64) (hb : b < 2 ^ 64) : bitop .and .u64 (a : Int) (b : Int) = ((a &&& b : Nat) : Int) := band ha hb
theorem or_words {a b : Nat} (ha : a < 2 ^ 64) (hb : b < 2 ^ 64) : bitop .or .u64 (a : Int) (b : Int) = ((a ||| b : Nat) : Int) := bor ha hb
theorem inc {i : Nat} (h : i ≤ 1048576) : IntKind.wrap .i64 ((i : Int) + 1) = ((i + 1 : Nat) : Int) := by rw [w64 (by omega) (by omega)]; rfl
theorem fit_loop (x : List Int) (hx : OK x) (n : Nat) (hn : n ≤ 1048576) (k : Nat) : ∀ (m i : Nat) (z : List Int), i ≤ (n + 63) / 64 → (n + 63) / 64 - i < m → z.length = (n + 63) / 64 → (∀ j, j < i → z.getD j 0 = (wd (val x % 2 ^ n) j : Int)) →
    ∃ y, J41_0 (k + 2) m (x, (n : Int), (((n + 63) / 64 : Nat) : Int), (i : Int), z) = some (.inl y) ∧ y.2.2.2.2 = lay (val x % 2 ^ n) ((n + 63) / 64)
  | 0, i, z, _, h, _, _ => by omega
  | m + 1, i, z, hi, h, hl, hz => by
    rw [j41_0]
    unfold F41_0
    dsimp only
    by_cases c : i < (n + 63) / 64
    · rw [decide_eq_true (show (i : Int) < (((n + 63) / 64 : Nat) : Int) by omega), cond_true, vat (k + 1), vmask k n i hn (by omega)]
      simp only [Option.bind_some]
      rw [if_pos (by omega), Int.toNat_natCast, val_word hx i, and_word (wd_lt _ _) (wd_lt _ _), ← VecSpec.wd_and, Nat.and_two_pow_sub_one_eq_mod, inc (by omega)]
      refine fit_loop x hx n hn k m (i + 1) _ (by omega) (by omega) (by simp [hl]) fun j hj => ?_
      rw [getD_set _ _ _ _ (by omega)]
      by_cases hji : j = i
      · rw [if_pos hji, hji]
      · rw [if_neg hji]; exact hz j (by omega)
    · rw [decide_eq_false (show ¬ (i : Int) < (((n + 63) / 64 : Nat) : Int) by omega), cond_false]
      exact ⟨_, rfl, filled hl fun j hj => hz j (by omega)⟩
theorem fit_is (k : Nat) (x : List Int) (hx : OK x) (n : Nat) (hn : n ≤ 1048576) (hk : (n + 63) / 64 < k) : R41 (k + 3) x (n : Int) = some (lay (val x % 2 ^ n) ((n + 63) / 64)) := by
  rw [u41]
  unfold r41
  rw [vwords k n hn]
  simp only [Option.bind_some]
  obtain ⟨y, hy, h1⟩ := fit_loop x hx n hn k (k + 2) 0 (List.replicate ((n + 63) / 64) 0) (by omega) (by omega) (by simp) (fun j hj => by omega)
  have hy' : J41_0 (k + 2) (k + 2) (x, (n : Int), (((n + 63) / 64 : Nat) : Int), 0, List.replicate ((n + 63) / 64) 0) = some (.inl y) := hy
  rw [if_pos (by omega), Int.toNat_natCast, List.length_replicate, hy']
  simp only [Option.bind_some, onSum, h1]
theorem or_loop (x y : List Int) (hx : OK x) (hy : OK y) (n : Nat) (hn : n ≤ 1048576) (k : Nat) : ∀ (m i : Nat) (z : List Int), i ≤ n → n - i < m → z.length = n → (∀ j, j < i → z.getD j 0 = (wd (val x ||| val y) j : Int)) →
    ∃ v, J51_0 (k + 1) m (x, y, (n : Int), (i : Int), z) = some (.inl v) ∧ v.2.2.2.2 = lay (val x ||| val y) n
  | 0, i, z, _, h, _, _ => by omega
  | m + 1, i, z, hi, h, hl, hz => by
    rw [j51_0]
    unfold F51_0
    dsimp only
    by_cases c : i < n
    · rw [decide_eq_true (show (i : Int) < (n : Int) by omega), cond_true, vat k, vat k]
      simp only [Option.bind_some]
      rw [if_pos (by omega), Int.toNat_natCast, val_word hx i, val_word hy i, or_words (wd_lt _ _) (wd_lt _ _), ← VecSpec.wd_or, inc (by omega)]
      refine or_loop x y hx hy n hn k m (i + 1) _ (by omega) (by omega) (by simp [hl]) fun j hj => ?_
      rw [getD_set _ _ _ _ (by omega)]
      by_cases hji : j = i
      · rw [if_pos hji, hji]
      · rw [if_neg hji]; exact hz j (by omega)
    · rw [decide_eq_false (show ¬ (i : Int) < (n : Int) by omega), cond_false]
      exact ⟨_, rfl, filled hl fun j hj => hz j (by omega)⟩
theorem or_is (k : Nat) (x y : List Int) (hx : OK x) (hy : OK y) (h1 : x.length ≤ 1048576) (h2 : y.length ≤ 1048576) (hk : max x.length y.length < k) : R51 (k + 2) x y = some (lay (val x ||| val y) (max x.length y.length)) := by
  rw [u51]
  unfold r51
  dsimp only
  have e : (if (y.length : Int) > (x.length : Int) then (y.length : Int) else (x.length : Int)) = ((max x.length y.length : Nat) : Int) := by split <;> omega
  rw [e]
  obtain ⟨v, hv, h3⟩ := or_loop x y hx hy (max x.length y.length) (by omega) k (k + 1) 0 (List.replicate (max x.length y.length) 0) (by omega) (by omega) (by simp) (fun j hj => by omega)
  have hv' : J51_0 (k + 1) (k + 1) (x, y, ((max x.length y.length : Nat) : Int), 0, List.replicate (max x.length y.length) 0) = some (.inl v) := hv
  rw [if_pos (by omega), Int.toNat_natCast, List.length_replicate, hv']
  simp only [Option.bind_some, onSum, h3]
theorem and_loop (x y : List Int) (hx : OK x) (hy : OK y) (n : Nat) (hn : n ≤ 1048576) (k : Nat) : ∀ (m i : Nat) (z : List Int), i ≤ n → n - i < m → z.length = n → (∀ j, j < i → z.getD j 0 = (wd (val x &&& val y) j : Int)) →
    ∃ v, J53_0 (k + 1) m (x, y, (n : Int), (i : Int), z) = some (.inl v) ∧ v.2.2.2.2 = lay (val x &&& val y) n
  | 0, i, z, _, h, _, _ => by omega
  | m + 1, i, z, hi, h, hl, hz => by
    rw [j53_0]
    unfold F53_0
    dsimp only
    by_cases c : i < n
    · rw [decide_eq_true (show (i : Int) < (n : Int) by omega), cond_true, vat k, vat k]
      simp only [Option.bind_some]
      rw [if_pos (by omega), Int.toNat_natCast, val_word hx i, val_word hy i, and_word (wd_lt _ _) (wd_lt _ _), ← VecSpec.wd_and, inc (by omega)]
      refine and_loop x y hx hy n hn k m (i + 1) _ (by omega) (by omega) (by simp [hl]) fun j hj => ?_
      rw [getD_set _ _ _ _ (by omega)]
      by_cases hji : j = i
      · rw [if_pos hji, hji]
      · rw [if_neg hji]; exact hz j (by omega)
    · rw [decide_eq_false (show ¬ (i : Int) < (n : Int) by omega), cond_false]
      exact ⟨_, rfl, filled hl fun j hj => hz j (by omega)⟩
theorem and_is (k : Nat) (x y : List Int) (hx : OK x) (hy : OK y) (n : Nat) (hn : n ≤ 1048576) (h1 : x.length = n) (h2 : y.length = n) (hk : n < k) : R53 (k + 2) x y = some (lay (val x &&& val y) n) := by
  rw [u53]
  unfold r53
  dsimp only
  have e : (if (y.length : Int) > (x.length : Int) then (y.length : Int) else (x.length : Int)) = (n : Int) := by split <;> omega
  rw [e]
  obtain ⟨v, hv, h3⟩ := and_loop x y hx hy n hn k (k + 1) 0 (List.replicate n 0) (by omega) (by omega) (by simp) (fun j hj => by omega)
  have hv' : J53_0 (k + 1) (k + 1) (x, y, (n : Int), 0, List.replicate n 0) = some (.inl v) := hv
  rw [if_pos (by omega), Int.toNat_natCast, List.length_replicate, hv']
  simp only [Option.bind_some, onSum, h3]
theorem add_word (k p q c : Nat) (h : c ≤ 1) : R66 (k + 1) (p : Int) (q : Int) (c : Int) = some ((((p + q + c) % 2 ^ 64 : Nat) : Int), (((p + q + c) / 2 ^ 64 : Nat) : Int)) := by
  show add64 ((p : Int), (q : Int), (c : Int)) = _
  unfold add64
  dsimp only
  rw [if_pos (by omega)]
  simp only [Int.toNat_natCast]
theorem sub_word (k p q c : Nat) (h : c ≤ 1) : R67 (k + 1) (p : Int) (q : Int) (c : Int) = some ((((p + 2 ^ 64 - q - c) % 2 ^ 64 : Nat) : Int), ((if p < q + c then 1 else 0 : Nat) : Int)) := by
  show sub64 ((p : Int), (q : Int), (c : Int)) = _
  unfold sub64
  dsimp only
  rw [if_pos (by omega)]
  simp only [Int.toNat_natCast]
  split <;> rfl
theorem add_loop (x y : List Int) (hx : OK x) (hy : OK y) (n : Nat) (hn : n ≤ 1048576) (k : Nat) : ∀ (m i : Nat) (z : List Int), i ≤ n → n - i < m → z.length = n → (∀ j, j < i → z.getD j 0 = (wd (val x + val y) j : Int)) →
    ∃ v, J52_0 (k + 1) m (x, y, (car (val x) (val y) (2 ^ (64 * i)) : Int), (n : Int), (i : Int), z) = some (.inl v) ∧ v.2.2.2.2.2 = lay (val x + val y) n
  | 0, i, z, _, h, _, _ => by omega
  | m + 1, i, z, hi, h, hl, hz => by
    rw [j52_0]
    unfold F52_0
    dsimp only
    by_cases c : i < n
    · have hc := car_le (val x) (val y) (Nat.two_pow_pos (64 * i))
      rw [decide_eq_true (show (i : Int) < (n : Int) by omega), cond_true, vat k, vat k]
      simp only [Option.bind_some]
      rw [val_word hx i, val_word hy i, add_word k _ _ _ hc]
      simp only [Option.bind_some]
      rw [if_pos (by omega), Int.toNat_natCast, ← wd_add, ← car_next, inc (by omega)]
      refine add_loop x y hx hy n hn k m (i + 1) _ (by omega) (by omega) (by simp [hl]) fun j hj => ?_
      rw [getD_set _ _ _ _ (by omega)]
      by_cases hji : j = i
      · rw [if_pos hji, hji]
      · rw [if_neg hji]; exact hz j (by omega)
    · rw [decide_eq_false (show ¬ (i : Int) < (n : Int) by omega), cond_false]
      exact ⟨_, rfl, filled hl fun j hj => hz j (by omega)⟩
theorem add_is (k : Nat) (x y : List Int) (hx : OK x) (hy : OK y) (n : Nat) (hn : n ≤ 1048576) (h1 : x.length = n) (h2 : y.length = n) (hk : n < k) : R52 (k + 2) x y = some (lay (val x + val y) n) := by
  rw [u52]
  unfold r52
  dsimp only
  have e : (if (y.length : Int) > (x.length : Int) then (y.length : Int) else (x.length : Int)) = (n : Int) := by split <;> omega
  rw [e]
  obtain ⟨v, hv, h3⟩ := add_loop x y hx hy n hn k (k + 1) 0 (List.replicate n 0) (by omega) (by omega) (by simp) (fun j hj => by omega)
  rw [Nat.mul_zero, car_zero] at hv
  have hv' : J52_0 (k + 1) (k + 1) (x, y, 0, (n : Int), 0, List.replicate n 0) = some (.inl v) := hv
  rw [if_pos (by omega), Int.toNat_natCast, List.length_replicate, hv']
  simp only [Option.bind_some, onSum, h3]
theorem sub_loop (x y : List Int) (hx : OK x) (hy : OK y) (n : Nat) (hn : n ≤ 1048576) (hyl : val y < 2 ^ (64 * n)) (k : Nat) : ∀ (m i : Nat) (z : List Int), i ≤ n → n - i < m → z.length = n → (∀ j, j < i → z.getD j 0 = (wd (val x + 2 ^ (64 * n) - val y) j : Int)) →
    ∃ v, J54_0 (k + 1) m (x, y, (bow (val x) (val y) (2 ^ (64 * i)) : Int), (n : Int), (i : Int), z) = some (.inl v) ∧ v.2.2.2.2.2 = lay (val x + 2 ^ (64 * n) - val y) n
  | 0, i, z, _, h, _, _ => by omega
  | m + 1, i, z, hi, h, hl, hz => by
    rw [j54_0]
    unfold F54_0
    dsimp only
    by_cases c : i < n
    · have hc := bow_le (val x) (val y) (2 ^ (64 * i))
      rw [decide_eq_true (show (i : Int) < (n : Int) by omega), cond_true, vat k, vat k]
      simp only [Option.bind_some]
      rw [val_word hx i, val_word hy i, sub_word k _ _ _ hc]
      simp only [Option.bind_some]
      rw [if_pos (by omega), Int.toNat_natCast, ← wd_sub _ _ _ _ c hyl, ← bow_next, inc (by omega)]
      refine sub_loop x y hx hy n hn hyl k m (i + 1) _ (by omega) (by omega) (by simp [hl]) fun j hj => ?_
      rw [getD_set _ _ _ _ (by omega)]
      by_cases hji : j = i
      · rw [if_pos hji, hji]
      · rw [if_neg hji]; exact hz j (by omega)
    · rw [decide_eq_false (show ¬ (i : Int) < (n : Int) by omega), cond_false]
      exact ⟨_, rfl, filled hl fun j hj => hz j (by omega)⟩
theorem sub_is (k : Nat) (x y : List Int) (hx : OK x) (hy : OK y) (n : Nat) (hn : n ≤ 1048576) (h1 : x.length = n) (h2 : y.length = n) (hk : n < k) : R54 (k + 2) x y = some (lay (val x + 2 ^ (64 * n) - val y) n) := by
  rw [u54]
  unfold r54
  dsimp only
  have e : (if (y.length : Int) > (x.length : Int) then (y.length : Int) else (x.length : Int)) = (n : Int) := by split <;> omega
  rw [e]
  obtain ⟨v, hv, h3⟩ := sub_loop x y hx hy n hn (by rw [← h2]; exact val_lt hy) k (k + 1) 0 (List.replicate n 0) (by omega) (by omega) (by simp) (fun j hj => by omega)
  rw [Nat.mul_zero, bow_zero] at hv
  have hv' : J54_0 (k + 1) (k + 1) (x, y, 0, (n : Int), 0, List.replicate n 0) = some (.inl v) := hv
  rw [if_pos (by omega), Int.toNat_natCast, List.length_replicate, hv']
  simp only [Option.bind_some, onSum, h3]
/-- The other bits below a width. -/
def invM (X w : Nat) : Nat := 2 ^ w - (X % 2 ^ w + 1)
theorem invM_bit (X w i : Nat) : (invM X w).testBit i = (decide (i < w) && !X.testBit i) := by
  unfold invM
  rw [Nat.testBit_two_pow_sub_succ (Nat.mod_lt _ (Nat.two_pow_pos _)), Nat.testBit_mod_two_pow]
  by_cases h : i < w <;> simp [h]
theorem not_word (X n i : Nat) : (2 ^ 64 - 1 - wd X i) &&& wd (2 ^ n - 1) i = wd (invM X n) i := by
  apply Nat.eq_of_testBit_eq
  intro j
  rw [Nat.testBit_and, show 2 ^ 64 - 1 - wd X i = 2 ^ 64 - (wd X i + 1) by omega, Nat.testBit_two_pow_sub_succ (wd_lt _ _), wd_testBit, wd_testBit, wd_testBit, invM_bit, Nat.testBit_two_pow_sub_one]
  by_cases hj : j < 64 <;> by_cases hi2 : 64 * i + j < n <;> simp [hj, hi2]
theorem not_loop (x : List Int) (hx : OK x) (n : Nat) (hn : n ≤ 1048576) (k : Nat) : ∀ (m i : Nat) (z : List Int), i ≤ (n + 63) / 64 → (n + 63) / 64 - i < m → z.length = (n + 63) / 64 → (∀ j, j < i → z.getD j 0 = (wd (invM (val x) n) j : Int)) →
    ∃ y, J38_0 (k + 2) m (x, (n : Int), (((n + 63) / 64 : Nat) : Int), (i : Int), z) = some (.inl y) ∧ y.2.2.2.2 = lay (invM (val x) n) ((n + 63) / 64)
  | 0, i, z, _, h, _, _ => by omega
  | m + 1, i, z, hi, h, hl, hz => by
    rw [j38_0]
    unfold F38_0
    dsimp only
    by_cases c : i < (n + 63) / 64
    · have hw := wd_lt (val x) i
      have hall : bitop .xor .u64 (IntKind.max .u64) ((wd (val x) i : Nat) : Int) = ((2 ^ 64 - 1 - wd (val x) i : Nat) : Int) := bnot hw
      rw [decide_eq_true (show (i : Int) < (((n + 63) / 64 : Nat) : Int) by omega), cond_true, vat (k + 1), vmask k n i hn (by omega)]
      simp only [Option.bind_some]
      rw [if_pos (by omega), Int.toNat_natCast, val_word hx i, hall, and_word (by omega) (wd_lt _ _), not_word, inc (by omega)]
      refine not_loop x hx n hn k m (i + 1) _ (by omega) (by omega) (by simp [hl]) fun j hj => ?_
      rw [getD_set _ _ _ _ (by omega)]
      by_cases hji : j = i
      · rw [if_pos hji, hji]
      · rw [if_neg hji]; exact hz j (by omega)
    · rw [decide_eq_false (show ¬ (i : Int) < (((n + 63) / 64 : Nat) : Int) by omega), cond_false]
      exact ⟨_, rfl, filled hl fun j hj => hz j (by omega)⟩
theorem not_is (k : Nat) (x : List Int) (hx : OK x) (n : Nat) (hn : n ≤ 1048576) (hk : (n + 63) / 64 < k) : R38 (k + 3) x (n : Int) = some (lay (invM (val x) n) ((n + 63) / 64)) := by
  rw [u38]
  unfold r38
  rw [vwords k n hn]
  simp only [Option.bind_some]
  obtain ⟨y, hy, h1⟩ := not_loop x hx n hn k (k + 2) 0 (List.replicate ((n + 63) / 64) 0) (by omega) (by omega) (by simp) (fun j hj => by omega)
  have hy' : J38_0 (k + 2) (k + 2) (x, (n : Int), (((n + 63) / 64 : Nat) : Int), 0, List.replicate ((n + 63) / 64) 0) = some (.inl y) := hy
  rw [if_pos (by omega), Int.toNat_natCast, List.length_replicate, hy']
  simp only [Option.bind_some, onSum, h1]
theorem OKnil : OK [] := fun x h => by simp at h
theorem ones_is (k : Nat) (n : Nat) (hn : n ≤ 1048576) (hk : (n + 63) / 64 < k) : R24 (k + 4) (n : Int) = some (lay (2 ^ n - 1) ((n + 63) / 64)) := by
  rw [u24]
  unfold r24
  rw [not_is k [] OKnil n hn hk]
  have e : invM (val []) n = 2 ^ n - 1 := by simp [invM, val]
  rw [e]
  rfl
theorem get_is (k : Nat) (x : List Int) (hx : OK x) (j : Nat) (hj : j ≤ 1048576) : R27 (k + 2) x (j : Int) = some ((val x).testBit j) := by
  have e1 : (j : Int).tdiv 64 = ((j / 64 : Nat) : Int) := by rw [Int.tdiv_eq_ediv_of_nonneg (by omega)]; rfl
  have e2 : IntKind.wrap .i64 ((j / 64 : Nat) : Int) = ((j / 64 : Nat) : Int) := w64 (by omega) (by omega)
  have e3 : (j : Int).tmod 64 = ((j % 64 : Nat) : Int) := by rw [Int.tmod_eq_emod_of_nonneg (by omega)]; rfl
  have e4 : IntKind.wrap .u64 ((j % 64 : Nat) : Int) = ((j % 64 : Nat) : Int) := wu64 (by omega) (by omega)
  have hin : R42 (k + 1) x (j : Int) = some (decide (j / 64 < x.length)) := by
    rw [u42]
    unfold r42
    simp only [decide_eq_true (show (j : Int) ≥ 0 by omega), beq_self_eq_true, cond_true, if_neg neg64, e1, e2]
    by_cases h : j / 64 < x.length
    · rw [decide_eq_true h, decide_eq_true (show ((j / 64 : Nat) : Int) < (x.length : Int) by omega)]
    · rw [decide_eq_false h, decide_eq_false (show ¬ ((j / 64 : Nat) : Int) < (x.length : Int) by omega)]
  rw [u27]
  unfold r27
  rw [hin]
  simp only [Option.bind_some]
  by_cases h : j / 64 < x.length
  · rw [decide_eq_true h]
    simp only [beq_self_eq_true, cond_true, if_neg neg64, e1, e2, e3, e4]
    rw [if_pos (by omega), if_neg (by omega), Int.toNat_natCast, Int.toNat_natCast, val_word hx (j / 64)]
    have f2 : min (j % 64) (IntKind.bits .u64) = j % 64 := Nat.min_eq_left (by show j % 64 ≤ 64; omega)
    have f3 : ((2 : Int) ^ (j % 64)) = ((2 ^ (j % 64) : Nat) : Int) := by rw [Int.natCast_pow]; rfl
    rw [f2, f3, Int.fdiv_eq_ediv_of_nonneg _ (Int.natCast_nonneg _), ← Int.natCast_ediv]
    have hd : wd (val x) (j / 64) / 2 ^ (j % 64) < 2 ^ 64 := Nat.lt_of_le_of_lt (Nat.div_le_self _ _) (wd_lt _ _)
    have f4 : bitop .and .u64 ((wd (val x) (j / 64) / 2 ^ (j % 64) : Nat) : Int) 1 = ((wd (val x) (j / 64) / 2 ^ (j % 64) % 2 : Nat) : Int) := by
      rw [show (1 : Int) = ((1 : Nat) : Int) from rfl, and_word hd (by decide), Nat.and_one_is_mod]
    rw [f4, val_testBit hx, ← wd_val hx, Nat.testBit_eq_decide_div_mod_eq]
    congr 1
    by_cases q : wd (val x) (j / 64) / 2 ^ (j % 64) % 2 = 1
    · rw [decide_eq_true q, decide_eq_true (by omega)]
    · rw [decide_eq_false q, decide_eq_false (by omega)]
  · rw [decide_eq_false h, val_testBit_out hx (by omega)]
    rfl
theorem low_eq (X n W : Nat) (h : n ≤ 64 * W) : val (lay (X % 2 ^ n) W) = X % 2 ^ n := val_lay_lt (Nat.lt_of_lt_of_le (Nat.mod_lt _ (Nat.two_pow_pos _)) (Nat.pow_le_pow_right (by decide) h))
theorem and_eq (A n U W : Nat) (h : n ≤ 64 * W) : val (lay (A % 2 ^ n &&& U) W) = (A % 2 ^ n &&& U) := val_lay_lt (Nat.lt_of_le_of_lt Nat.and_le_left (Nat.lt_of_lt_of_le (Nat.mod_lt _ (Nat.two_pow_pos _)) (Nat.pow_le_pow_right (by decide) h)))
theorem hyrow_is (k : Nat) (v u : List Int) (hv : OK v) (hu : OK u) (n : Nat) (hn : n ≤ 1048576) (hk : (n + 63) / 64 < k) : R40 (k + 4) v u (n : Int) = some (lay (RowSpec.rowN (val v) (val u) n) ((n + 63) / 64)) := by
  have hw : n ≤ 64 * ((n + 63) / 64) := by omega
  rw [u40]
  unfold r40
  rw [fit_is k v hv n hn hk, Option.bind_some, fit_is k u hu n hn hk, Option.bind_some]
  rw [and_is (k + 1) _ _ (lay_OK _ _) (lay_OK _ _) ((n + 63) / 64) (by omega) (lay_length _ _) (lay_length _ _) (by omega), Option.bind_some, low_eq _ _ _ hw, low_eq _ _ _ hw]
  rw [add_is (k + 1) _ _ (lay_OK _ _) (lay_OK _ _) ((n + 63) / 64) (by omega) (lay_length _ _) (lay_length _ _) (by omega), Option.bind_some, low_eq _ _ _ hw, and_eq _ _ _ _ hw]
  rw [sub_is (k + 1) _ _ (lay_OK _ _) (lay_OK _ _) ((n + 63) / 64) (by omega) (lay_length _ _) (lay_length _ _) (by omega), Option.bind_some, low_eq _ _ _ hw, and_eq _ _ _ _ hw]
  rw [or_is (k + 1) _ _ (lay_OK _ _) (lay_OK _ _) (by rw [lay_length]; omega) (by rw [lay_length]; omega) (by rw [lay_length, lay_length]; omega), Option.bind_some]
  simp only [lay_length, Nat.max_self, val_lay]
  rw [fit_is k _ (lay_OK _ _) n hn hk, Option.bind_some, val_lay, Nat.mod_mod_of_dvd _ (Nat.pow_dvd_pow 2 hw), RowSpec.num_hyyro _ _ _ _ hw]
theorem crrow_is (k : Nat) (v u : List Int) (hv : OK v) (hu : OK u) (n : Nat) (hn : n ≤ 1048576) (hk : (n + 63) / 64 < k) : R39 (k + 4) v u (n : Int) = some (lay (RowSpec.rowN (val v) (val u) n) ((n + 63) / 64)) := by
  have hw : n ≤ 64 * ((n + 63) / 64) := by omega
  have hI : invM (val u % 2 ^ n) n % 2 ^ (64 * ((n + 63) / 64)) = invM (val u % 2 ^ n) n := Nat.mod_eq_of_lt (by
    have : invM (val u % 2 ^ n) n < 2 ^ n := by
      have := Nat.two_pow_pos n
      unfold invM
      omega
    exact Nat.lt_of_lt_of_le this (Nat.pow_le_pow_right (by decide) hw))
  rw [u39]
  unfold r39
  rw [fit_is k v hv n hn hk, Option.bind_some, fit_is k u hu n hn hk, Option.bind_some]
  rw [and_is (k + 1) _ _ (lay_OK _ _) (lay_OK _ _) ((n + 63) / 64) (by omega) (lay_length _ _) (lay_length _ _) (by omega), Option.bind_some, low_eq _ _ _ hw, low_eq _ _ _ hw]
  rw [add_is (k + 1) _ _ (lay_OK _ _) (lay_OK _ _) ((n + 63) / 64) (by omega) (lay_length _ _) (lay_length _ _) (by omega), Option.bind_some, low_eq _ _ _ hw, and_eq _ _ _ _ hw]
  rw [not_is k _ (lay_OK _ _) n hn hk, Option.bind_some, low_eq _ _ _ hw]
  rw [and_is (k + 1) _ _ (lay_OK _ _) (lay_OK _ _) ((n + 63) / 64) (by omega) (lay_length _ _) (lay_length _ _) (by omega), Option.bind_some, low_eq _ _ _ hw]
  rw [or_is (k + 1) _ _ (lay_OK _ _) (lay_OK _ _) (by rw [lay_length]; omega) (by rw [lay_length]; omega) (by rw [lay_length, lay_length]; omega), Option.bind_some]
  rw [val_lay (invM _ _), hI, and_eq _ _ _ _ hw]
  simp only [lay_length, Nat.max_self, val_lay]
  rw [fit_is k _ (lay_OK _ _) n hn hk, Option.bind_some, val_lay, Nat.mod_mod_of_dvd _ (Nat.pow_dvd_pow 2 hw), RowSpec.num_croch _ _ _ _ hw _ (fun i => invM_bit _ _ i)]
theorem wrow_is (k : Nat) (kind : Int) (v u : List Int) (hv : OK v) (hu : OK u) (n : Nat) (hn : n ≤ 1048576) (hk : (n + 63) / 64 < k) : R25 (k + 5) kind v u (n : Int) = some (lay (RowSpec.rowN (val v) (val u) n) ((n + 63) / 64)) := by
  rw [u25]
  unfold r25
  rw [hyrow_is k v u hv hu n hn hk, crrow_is k v u hv hu n hn hk]
  cases decide (kind = 1) <;> rfl
end Go.Proofs.Ytbbbcdfagmcfgaa.EWalkRuns
