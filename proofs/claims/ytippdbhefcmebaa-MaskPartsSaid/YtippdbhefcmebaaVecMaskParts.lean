import Derived.Test.YtippdbhefcmebaaR5MaskParts
import Derived.Test.YtippdbhefcmebaaVecPop
import Derived.Test.YtippdbhefcmebaaVecSpecWid
import Derived.Test.YtippdbhefcmebaaVecSpecAt
namespace Go.Proofs.Ytippdbhefcmebaa.EMaskParts
open Go Go.Proofs.Ytippdbhefcmebaa.AE Go.Proofs.Ytippdbhefcmebaa.VecMath
set_option linter.unusedVariables false
set_option linter.unusedSimpArgs false
/-! What vec's functions come to. -/
theorem getD_set (z : List Int) (i j : Nat) (v : Int) (hi : i < z.length) : (z.set i v).getD j 0 = if j = i then v else z.getD j 0 := by
  rw [List.getD_eq_getElem?_getD, List.getElem?_set]
  by_cases h : i = j
  · subst h; rw [if_pos rfl, if_pos hi, if_pos rfl]; rfl
  · rw [if_neg h, if_neg (fun e => h e.symm), List.getD_eq_getElem?_getD]
theorem filled {g : Nat → Int} {n : Nat} {z : List Int} (hl : z.length = n) (h : ∀ j, j < n → z.getD j 0 = g j) : z = (List.range n).map g := by
  apply List.ext_getElem
  · simp [hl]
  · intro j h1 h2
    have := h j (by omega)
    rw [List.getD_eq_getElem?_getD, List.getElem?_eq_getElem h1] at this
    simpa using this
theorem vat (k : Nat) (x : List Int) (i : Nat) : R31 (k + 1) x (i : Int) = some (x.getD i 0) := by
  rw [u31]
  unfold r31
  dsimp only
  by_cases h : i < x.length
  · rw [decide_eq_true (show (i : Int) < (x.length : Int) by omega), cond_true, if_pos (by omega), Int.toNat_natCast]
  · rw [decide_eq_false (show ¬ (i : Int) < (x.length : Int) by omega), cond_false, List.getD_eq_getElem?_getD, List.getElem?_eq_none (by omega)]
    rfl
theorem vwidth (k : Nat) (n : Nat) (hn : n ≤ 1048576) : R29 (k + 1) (n : Int) = some (n : Int) := by
  rw [u29]
  unfold r29
  dsimp only
  rw [if_neg (show ¬ (0 : Int) > (n : Int) by omega), if_neg (show ¬ (1048576 : Int) < (n : Int) by omega)]
theorem vwords (k : Nat) (n : Nat) (hn : n ≤ 1048576) : R19 (k + 2) (n : Int) = some (((n + 63) / 64 : Nat) : Int) := by
  rw [u19]
  unfold r19
  rw [vwidth k n hn]
  simp only [Option.bind_some]
  have e1 : IntKind.wrap .i64 ((n : Int) + 64) = (n : Int) + 64 := w64 (by omega) (by omega)
  have e2 : IntKind.wrap .i64 ((n : Int) + 64 - 1) = (n : Int) + 63 := by rw [w64 (by omega) (by omega)]; omega
  have e3 : IntKind.wrap .i64 (((n : Int) + 63) / 64) = (((n + 63) / 64 : Nat) : Int) := by rw [w64 (by omega) (by omega)]; omega
  rw [e1, e2, Int.tdiv_eq_ediv_of_nonneg (by omega), e3, if_neg neg64]
theorem vmask (k : Nat) (n i : Nat) (hn : n ≤ 1048576) (hi : 64 * i < n) : R35 (k + 2) (n : Int) (i : Int) = some (wd (2 ^ n - 1) i : Int) := by
  rw [u35]
  unfold r35
  rw [vwidth k n hn]
  simp only [Option.bind_some]
  have e1 : IntKind.wrap .i64 ((64 : Int) * (i : Int)) = ((64 * i : Nat) : Int) := by rw [w64 (by omega) (by omega)]; omega
  have e2 : IntKind.wrap .i64 ((n : Int) - ((64 * i : Nat) : Int)) = ((n - 64 * i : Nat) : Int) := by rw [w64 (by omega) (by omega)]; omega
  rw [e1, e2, VecSpec.wd_ones]
  by_cases h : 64 ≤ n - 64 * i
  · rw [decide_eq_true (show ((n - 64 * i : Nat) : Int) ≥ 64 by omega), cond_true, Nat.min_eq_left h]
    rfl
  · rw [decide_eq_false (show ¬ ((n - 64 * i : Nat) : Int) ≥ 64 by omega), cond_false, Nat.min_eq_right (show n - 64 * i ≤ 64 by omega)]
    generalize hc : n - 64 * i = c at h
    have hc64 : c < 64 := by omega
    have f1 : IntKind.wrap .u64 (c : Int) = (c : Int) := wu64 (by omega) (by omega)
    have f2 : min c (IntKind.bits .u64) = c := Nat.min_eq_left (by show c ≤ 64; omega)
    have hp : 2 ^ c < 2 ^ 64 := Nat.pow_lt_pow_right (by decide) hc64
    have hp0 : 0 < 2 ^ c := Nat.two_pow_pos c
    have f3 : (1 : Int) * 2 ^ c = ((2 ^ c : Nat) : Int) := by rw [Int.one_mul, Int.natCast_pow]; rfl
    rw [f1, if_neg (by omega), Int.toNat_natCast, f2, f3]
    generalize 2 ^ c = Q at hp hp0
    have f4 : IntKind.wrap .u64 (Q : Int) = (Q : Int) := wu64 (by omega) (by omega)
    have f5 : IntKind.wrap .u64 ((Q : Int) - 1) = ((Q - 1 : Nat) : Int) := by rw [wu64 (by omega) (by omega)]; omega
    rw [f4, f5]
theorem and_word {a b : Nat} (ha : a < 2 ^ 64) (hb : b < 2 ^ 64) : bitop .and .u64 (a : Int) (b : Int) = ((a &&& b : Nat) : Int) := band ha hb
theorem or_words {a b : Nat} (ha : a < 2 ^ 64) (hb : b < 2 ^ 64) : bitop .or .u64 (a : Int) (b : Int) = ((a ||| b : Nat) : Int) := bor ha hb
theorem inc {i : Nat} (h : i ≤ 1048576) : IntKind.wrap .i64 ((i : Int) + 1) = ((i + 1 : Nat) : Int) := by rw [w64 (by omega) (by omega)]; rfl
theorem fit_loop (x : List Int) (hx : OK x) (n : Nat) (hn : n ≤ 1048576) (k : Nat) : ∀ (m i : Nat) (z : List Int), i ≤ (n + 63) / 64 → (n + 63) / 64 - i < m → z.length = (n + 63) / 64 → (∀ j, j < i → z.getD j 0 = (wd (val x % 2 ^ n) j : Int)) →
    ∃ y, J26_0 (k + 2) m (x, (n : Int), (((n + 63) / 64 : Nat) : Int), (i : Int), z) = some (.inl y) ∧ y.2.2.2.2 = lay (val x % 2 ^ n) ((n + 63) / 64)
  | 0, i, z, _, h, _, _ => by omega
  | m + 1, i, z, hi, h, hl, hz => by
    rw [j26_0]
    unfold F26_0
    dsimp only
    by_cases c : i < (n + 63) / 64
    · rw [decide_eq_true (show (i : Int) < (((n + 63) / 64 : Nat) : Int) by omega), cond_true, vat (k + 1), vmask k n i hn (by omega)]
      simp only [Option.bind_some]
      rw [if_pos (by omega), Int.toNat_natCast, val_word hx i, and_word (wd_lt _ _) (wd_lt _ _), ← VecSpec.wd_and, Nat.and_two_pow_sub_one_eq_mod, inc (by omega)]
      refine fit_loop x hx n hn k m (i + 1) _ (by omega) (by omega) (by simp [hl]) fun j hj => ?_
      rw [getD_set _ _ _ _ (by omega)]
      by_cases hji : j = i
      · rw [if_pos hji, hji]
      · rw [if_neg hji]; exact hz j (by omega)
    · rw [decide_eq_false (show ¬ (i : Int) < (((n + 63) / 64 : Nat) : Int) by omega), cond_false]
      exact ⟨_, rfl, filled hl fun j hj => hz j (by omega)⟩
theorem fit_is (k : Nat) (x : List Int) (hx : OK x) (n : Nat) (hn : n ≤ 1048576) (hk : (n + 63) / 64 < k) : R26 (k + 3) x (n : Int) = some (lay (val x % 2 ^ n) ((n + 63) / 64)) := by
  rw [u26]
  unfold r26
  rw [vwords k n hn]
  simp only [Option.bind_some]
  obtain ⟨y, hy, h1⟩ := fit_loop x hx n hn k (k + 2) 0 (List.replicate ((n + 63) / 64) 0) (by omega) (by omega) (by simp) (fun j hj => by omega)
  have hy' : J26_0 (k + 2) (k + 2) (x, (n : Int), (((n + 63) / 64 : Nat) : Int), 0, List.replicate ((n + 63) / 64) 0) = some (.inl y) := hy
  rw [if_pos (by omega), Int.toNat_natCast, List.length_replicate, hy']
  simp only [Option.bind_some, onSum, h1]
theorem or_loop (x y : List Int) (hx : OK x) (hy : OK y) (n : Nat) (hn : n ≤ 1048576) (k : Nat) : ∀ (m i : Nat) (z : List Int), i ≤ n → n - i < m → z.length = n → (∀ j, j < i → z.getD j 0 = (wd (val x ||| val y) j : Int)) →
    ∃ v, J21_0 (k + 1) m (x, y, (n : Int), (i : Int), z) = some (.inl v) ∧ v.2.2.2.2 = lay (val x ||| val y) n
  | 0, i, z, _, h, _, _ => by omega
  | m + 1, i, z, hi, h, hl, hz => by
    rw [j21_0]
    unfold F21_0
    dsimp only
    by_cases c : i < n
    · rw [decide_eq_true (show (i : Int) < (n : Int) by omega), cond_true, vat k, vat k]
      simp only [Option.bind_some]
      rw [if_pos (by omega), Int.toNat_natCast, val_word hx i, val_word hy i, or_words (wd_lt _ _) (wd_lt _ _), ← VecSpec.wd_or, inc (by omega)]
      refine or_loop x y hx hy n hn k m (i + 1) _ (by omega) (by omega) (by simp [hl]) fun j hj => ?_
      rw [getD_set _ _ _ _ (by omega)]
      by_cases hji : j = i
      · rw [if_pos hji, hji]
      · rw [if_neg hji]; exact hz j (by omega)
    · rw [decide_eq_false (show ¬ (i : Int) < (n : Int) by omega), cond_false]
      exact ⟨_, rfl, filled hl fun j hj => hz j (by omega)⟩
theorem or_is (k : Nat) (x y : List Int) (hx : OK x) (hy : OK y) (h1 : x.length ≤ 1048576) (h2 : y.length ≤ 1048576) (hk : max x.length y.length < k) : R21 (k + 2) x y = some (lay (val x ||| val y) (max x.length y.length)) := by
  rw [u21]
  unfold r21
  dsimp only
  have e : (if (y.length : Int) > (x.length : Int) then (y.length : Int) else (x.length : Int)) = ((max x.length y.length : Nat) : Int) := by split <;> omega
  rw [e]
  obtain ⟨v, hv, h3⟩ := or_loop x y hx hy (max x.length y.length) (by omega) k (k + 1) 0 (List.replicate (max x.length y.length) 0) (by omega) (by omega) (by simp) (fun j hj => by omega)
  have hv' : J21_0 (k + 1) (k + 1) (x, y, ((max x.length y.length : Nat) : Int), 0, List.replicate (max x.length y.length) 0) = some (.inl v) := hv
  rw [if_pos (by omega), Int.toNat_natCast, List.length_replicate, hv']
  simp only [Option.bind_some, onSum, h3]
theorem ones_loop (n : Nat) (hn : n ≤ 1048576) (k : Nat) : ∀ (m i : Nat) (z : List Int), i ≤ (n + 63) / 64 → (n + 63) / 64 - i < m → z.length = (n + 63) / 64 → (∀ j, j < i → z.getD j 0 = (wd (2 ^ n - 1) j : Int)) →
    ∃ y, J32_0 (k + 2) m (([] : List Int), (n : Int), (((n + 63) / 64 : Nat) : Int), (i : Int), z) = some (.inl y) ∧ y.2.2.2.2 = lay (2 ^ n - 1) ((n + 63) / 64)
  | 0, i, z, _, h, _, _ => by omega
  | m + 1, i, z, hi, h, hl, hz => by
    rw [j32_0]
    unfold F32_0
    dsimp only
    by_cases c : i < (n + 63) / 64
    · have hall : bitop .xor .u64 (IntKind.max .u64) (([] : List Int).getD i 0) = ((2 ^ 64 - 1 : Nat) : Int) := by
        have e0 : ([] : List Int).getD i 0 = ((0 : Nat) : Int) := by simp
        rw [e0]
        exact bnot (a := 0) (by decide)
      rw [decide_eq_true (show (i : Int) < (((n + 63) / 64 : Nat) : Int) by omega), cond_true, vat (k + 1), vmask k n i hn (by omega)]
      simp only [Option.bind_some]
      rw [if_pos (by omega), Int.toNat_natCast, hall, and_word (by decide) (wd_lt _ _), Nat.and_comm, Nat.and_two_pow_sub_one_eq_mod, Nat.mod_eq_of_lt (wd_lt _ _), inc (by omega)]
      refine ones_loop n hn k m (i + 1) _ (by omega) (by omega) (by simp [hl]) fun j hj => ?_
      rw [getD_set _ _ _ _ (by omega)]
      by_cases hji : j = i
      · rw [if_pos hji, hji]
      · rw [if_neg hji]; exact hz j (by omega)
    · rw [decide_eq_false (show ¬ (i : Int) < (((n + 63) / 64 : Nat) : Int) by omega), cond_false]
      exact ⟨_, rfl, filled hl fun j hj => hz j (by omega)⟩
theorem ones_is (k : Nat) (n : Nat) (hn : n ≤ 1048576) (hk : (n + 63) / 64 < k) : R22 (k + 4) (n : Int) = some (lay (2 ^ n - 1) ((n + 63) / 64)) := by
  rw [u22]
  unfold r22
  rw [u32]
  unfold r32
  rw [vwords k n hn]
  simp only [Option.bind_some]
  obtain ⟨y, hy, h1⟩ := ones_loop n hn k (k + 2) 0 (List.replicate ((n + 63) / 64) 0) (by omega) (by omega) (by simp) (fun j hj => by omega)
  have hy' : J32_0 (k + 2) (k + 2) (([] : List Int), (n : Int), (((n + 63) / 64 : Nat) : Int), 0, List.replicate ((n + 63) / 64) 0) = some (.inl y) := hy
  rw [if_pos (by omega), Int.toNat_natCast, List.length_replicate, hy']
  simp only [Option.bind_some, onSum, h1]
theorem pop_word (k x : Nat) (hx : x < 2 ^ 64) : R30 (k + 1) (x : Int) = some (cnt x 64 : Int) := by
  obtain ⟨y, z, v, p, q, u, e1, hy, e2, hz, e3, e4, e5, e6, hv, hp, hq, hu, e7⟩ := VecPop.pop x hx
  rw [u30]
  unfold r30
  have d {a c : Nat} (h : a < 2 ^ 64) : a / c < 2 ^ 64 := Nat.lt_of_le_of_lt (Nat.div_le_self _ _) h
  have fd (a e c : Nat) (hc : 2 ^ e = c) : (a : Int).fdiv (2 ^ e) = ((a / c : Nat) : Int) := by
    have : ((2 : Int) ^ e) = ((c : Nat) : Int) := by rw [← hc, Int.natCast_pow]; rfl
    rw [this, Int.fdiv_eq_ediv_of_nonneg _ (by omega)]
    rfl
  have andm (a m : Nat) (ha : a < 2 ^ 64) (hm : m < 2 ^ 64) (M : Int) (hM : M = (m : Int)) : bitop .and .u64 (a : Int) M = ((a &&& m : Nat) : Int) := by rw [hM]; exact band ha hm
  have sumw (a b s : Nat) (h : a + b = s) (hs : s < 2 ^ 64) : IntKind.u64.wrap ((a : Int) + (b : Int)) = (s : Int) := by
    rw [wu64 (by omega) (by omega)]; omega
  have m1 : min (1 : Int).toNat (IntKind.bits .u64) = 1 := by decide
  have m2 : min (2 : Int).toNat (IntKind.bits .u64) = 2 := by decide
  have m4 : min (4 : Int).toNat (IntKind.bits .u64) = 4 := by decide
  have m8 : min (8 : Int).toNat (IntKind.bits .u64) = 8 := by decide
  have m16 : min (16 : Int).toNat (IntKind.bits .u64) = 16 := by decide
  have m32 : min (32 : Int).toNat (IntKind.bits .u64) = 32 := by decide
  rw [if_neg (by decide), if_neg (by decide), if_neg (by decide), if_neg (by decide), if_neg (by decide), if_neg (by decide), m1, m2, m4, m8, m16, m32]
  dsimp only
  rw [fd x 1 2 rfl, andm (x / 2) 6148914691236517205 (d hx) (by decide) 6148914691236517205 rfl, andm x 6148914691236517205 hx (by decide) 6148914691236517205 rfl, sumw _ _ y e1 hy]
  rw [fd y 2 4 rfl, andm (y / 4) 3689348814741910323 (d hy) (by decide) 3689348814741910323 rfl, andm y 3689348814741910323 hy (by decide) 3689348814741910323 rfl, sumw _ _ z e2 (by omega)]
  rw [fd z 4 16 rfl, sumw (z / 16) z _ rfl (by omega), andm (z / 16 + z) 1085102592571150095 (by omega) (by decide) 1085102592571150095 rfl, e3]
  rw [fd v 8 256 rfl, sumw v (v / 256) p e4 (by omega)]
  rw [fd p 16 65536 rfl, sumw p (p / 65536) q e5 (by omega)]
  rw [fd q 32 4294967296 rfl, sumw q (q / 4294967296) u e6 (by omega)]
  have e8 : IntKind.wrap .i64 (u : Int) = (u : Int) := w64 (by omega) (by omega)
  have e9 : bitop .and .i64 (u : Int) 127 = ((u % 128 : Nat) : Int) := by
    have h1 : (127 : Int) = ((127 : Nat) : Int) := rfl
    have wi : ∀ n : Int, 0 ≤ n → n < 2 ^ 63 → IntKind.i64.wrap n = n := fun n h₀ h₁ => w64 (by omega) (by omega)
    rw [h1, ← Nat.and_two_pow_sub_one_eq_mod u 7]
    exact (bits_nat .i64 63 (by decide) wi u 127 hu (by decide)).1
  rw [e8, e9, e7]
theorem count_loop (N w : Nat) (hw : w ≤ 16384) (k : Nat) : ∀ (m i : Nat), i ≤ w → w - i < m →
    ∃ y, J20_0 (k + 1) m ((cnt N (64 * i) : Int), lay N w, (w : Int), (i : Int)) = some (.inl y) ∧ y.1 = (cnt N (64 * w) : Int)
  | 0, i, _, h => by omega
  | m + 1, i, hi, h => by
    rw [j20_0]
    unfold F20_0
    dsimp only
    by_cases c : i < w
    · have hc := cnt_le N (64 * (i + 1))
      have e : cnt N (64 * i) + cnt (wd N i) 64 = cnt N (64 * (i + 1)) := by
        rw [show 64 * (i + 1) = 64 * i + 64 by omega, cnt_add]
        congr 1
        refine cnt_congr 64 fun j hj => ?_
        rw [wd_testBit, decide_eq_true hj, Bool.true_and, Nat.testBit_div_two_pow, Nat.add_comm]
      have hin : (0 : Int) ≤ (i : Int) ∧ (i : Int) < ((lay N w).length : Int) := by rw [lay_length]; omega
      rw [decide_eq_true (show (i : Int) < (w : Int) by omega), cond_true, if_pos hin, Int.toNat_natCast, lay_getD _ _ _ c, pop_word k _ (wd_lt N i)]
      simp only [Option.bind_some]
      rw [inc (by omega), w64 (by omega) (by omega)]
      have key := count_loop N w hw k m (i + 1) (by omega) (by omega)
      rw [← e, Int.natCast_add] at key
      exact key
    · rw [decide_eq_false (show ¬ (i : Int) < (w : Int) by omega), cond_false]
      have : i = w := by omega
      subst this
      exact ⟨_, rfl, rfl⟩
theorem count_is (k : Nat) (x : List Int) (hx : OK x) (n : Nat) (hn : n ≤ 1048576) (hk : (n + 63) / 64 < k) : R20 (k + 4) x (n : Int) = some (cnt (val x) n : Int) := by
  rw [u20]
  unfold r20
  rw [fit_is k x hx n hn hk]
  simp only [Option.bind_some, lay_length]
  obtain ⟨y, hy, h1⟩ := count_loop (val x % 2 ^ n) ((n + 63) / 64) (by omega) (k + 2) (k + 3) 0 (by omega) (by omega)
  have hy' : J20_0 (k + 3) (k + 3) (0, lay (val x % 2 ^ n) ((n + 63) / 64), (((n + 63) / 64 : Nat) : Int), 0) = some (.inl y) := hy
  rw [hy']
  simp only [Option.bind_some, onSum, h1]
  have e : cnt (val x % 2 ^ n) (64 * ((n + 63) / 64)) = cnt (val x) n := by
    obtain ⟨v, hv⟩ : ∃ v, 64 * ((n + 63) / 64) = n + v := ⟨64 * ((n + 63) / 64) - n, by omega⟩
    rw [hv, cnt_more _ n v fun i h1 h2 => by rw [Nat.testBit_mod_two_pow, decide_eq_false (by omega), Bool.false_and]]
    exact cnt_congr n fun i hi => by rw [Nat.testBit_mod_two_pow, decide_eq_true hi, Bool.true_and]
  rw [e]
end Go.Proofs.Ytippdbhefcmebaa.EMaskParts
