import Derived.Test.YtippdbhefcmebaaResKit
import Derived.Test.YtippdbhefcmebaaVecMath
import Derived.Test.YtippdbhefcmebaaResMaskApart
namespace Go.Proofs.Ytippdbhefcmebaa.EMaskApart
open Go Go.Proofs.Ytippdbhefcmebaa.AE Go.Proofs.Ytippdbhefcmebaa.VecMath
set_option linter.unusedVariables false
set_option linter.unusedSimpArgs false
/-! What tattingref5's functions come to. -/
theorem neg64 : ¬ ((64 : Int) = 0) := by decide
theorem ref_words (k : Nat) (m : Int) (h0 : 0 ≤ m) (h1 : m ≤ 1048576) : R15 (k + 2) m = some ((m + 63) / 64) := by
  have e : R28 (k + 1) m = some m := by
    rw [u28]
    unfold r28
    have h2 : ¬ m < 0 := by omega
    have h3 : ¬ m > 1048576 := by omega
    simp [h2, h3]
  rw [u15]
  unfold r15
  rw [e]
  simp only [Option.bind_some]
  have e2 : IntKind.wrap .i64 (m + 63) = m + 63 := w64 (by omega) (by omega)
  have e3 : IntKind.wrap .i64 ((m + 63) / 64) = (m + 63) / 64 := w64 (by omega) (by omega)
  rw [e2, Int.tdiv_eq_ediv_of_nonneg (by omega), e3, if_neg neg64]
/-- A number of bits. -/
def numB (f : Nat → Bool) : Nat → Nat
  | 0 => 0
  | j + 1 => if f j then numB f j ||| 2 ^ j else numB f j
theorem numB_succ (f : Nat → Bool) (j : Nat) : numB f (j + 1) = if f j then numB f j ||| 2 ^ j else numB f j := rfl
theorem numB_congr {f g : Nat → Bool} : ∀ n, (∀ j, j < n → f j = g j) → numB f n = numB g n
  | 0, _ => rfl
  | n + 1, h => by unfold numB; rw [h n (by omega), numB_congr n fun j hj => h j (by omega)]
theorem numB_mk (b : List Int) (y : Int) : ∀ n, numB (fun j => decide (b.getD j 0 = y)) n = mkB b y n
  | 0 => rfl
  | n + 1 => by
    unfold numB mkB
    rw [numB_mk b y n]
    by_cases h : b.getD n 0 = y <;> simp [h]
theorem numB_lt (f : Nat → Bool) : ∀ n, numB f n < 2 ^ n
  | 0 => by simp [numB]
  | n + 1 => by
    have ih := numB_lt f n
    unfold numB
    split
    · exact Nat.or_lt_two_pow (Nat.lt_of_lt_of_le ih (Nat.pow_le_pow_right (by decide) (by omega))) (Nat.pow_lt_pow_right (by decide) (by omega))
    · exact Nat.lt_of_lt_of_le ih (Nat.pow_le_pow_right (by decide) (by omega))
theorem numB_bit (f : Nat → Bool) (i : Nat) : ∀ n, (numB f n).testBit i = (decide (i < n) && f i)
  | 0 => by simp [numB]
  | n + 1 => by
    have ih := numB_bit f i n
    unfold numB
    by_cases h : f n
    · rw [if_pos h, Nat.testBit_or, ih]
      by_cases hi : i = n
      · subst hi; simp [h, Nat.testBit_two_pow_self]
      · rw [Nat.testBit_two_pow_of_ne (by omega), Bool.or_false]
        congr 1; simp; omega
    · rw [if_neg h, ih]
      by_cases hi : i = n
      · subst hi; simp [h]
      · congr 1; simp; omega
theorem or_word (N k c : Nat) (hc : c < 64) : bitop .or .u64 ((wd N k : Nat) : Int) (IntKind.wrap .u64 ((1 : Int) * 2 ^ (min (IntKind.wrap .u64 (c : Int)).toNat (IntKind.bits .u64)))) = ((wd N k ||| 2 ^ c : Nat) : Int) := by
  have e1 : IntKind.wrap .u64 (c : Int) = (c : Int) := wu64 (by omega) (by omega)
  have e2 : min c (IntKind.bits .u64) = c := Nat.min_eq_left (by show c ≤ 64; omega)
  have hp : 2 ^ c < 2 ^ 64 := Nat.pow_lt_pow_right (by decide) hc
  have e3 : (1 : Int) * 2 ^ c = ((2 ^ c : Nat) : Int) := by rw [Int.one_mul, Int.natCast_pow]; rfl
  have e4 : ((1 : Int) * 2 ^ c) = ((2 ^ c : Nat) : Int) := e3
  rw [e1, Int.toNat_natCast, e2, e4]
  generalize 2 ^ c = Q at hp
  rw [wu64 (by omega) (by omega)]
  exact bor (wd_lt N k) hp
theorem laid_loop (bs : List Bool) (w : Nat) (hw : bs.length ≤ 64 * w) (hb : bs.length ≤ 1048576) (n : Nat) : ∀ (m i : Nat), i ≤ bs.length → bs.length - i < m →
    ∃ z, J27_0 n m (bs, (w : Int), (i : Int), lay (numB (fun j => bs.getD j false) i) w) = some (.inl z) ∧ z.2.2.2 = lay (numB (fun j => bs.getD j false) bs.length) w
  | 0, i, _, h => by omega
  | m + 1, i, hi, h => by
    rw [j27_0]
    unfold F27_0
    simp only
    by_cases c : i < bs.length
    · have e1 : (i : Int).tdiv 64 = ((i / 64 : Nat) : Int) := by rw [Int.tdiv_eq_ediv_of_nonneg (by omega)]; rfl
      have e2 : IntKind.wrap .i64 ((i / 64 : Nat) : Int) = ((i / 64 : Nat) : Int) := w64 (by omega) (by omega)
      have e3 : (i : Int).tmod 64 = ((i % 64 : Nat) : Int) := by rw [Int.tmod_eq_emod_of_nonneg (by omega)]; rfl
      have e4 : IntKind.wrap .i64 ((i : Int) + 1) = ((i + 1 : Nat) : Int) := by rw [w64 (by omega) (by omega)]; rfl
      have hiw : i / 64 < w := by omega
      have d1 : decide ((i : Int) < (bs.length : Int)) = true := decide_eq_true (by omega)
      have d2 : decide (((i / 64 : Nat) : Int) < (w : Int)) = true := decide_eq_true (by omega)
      simp only [d1, e1, e2, e3, e4, d2, BEq.rfl, cond_true, if_neg neg64, Int.toNat_natCast]
      have hin : (0 : Int) ≤ (i : Int) ∧ (i : Int) < (bs.length : Int) := by omega
      rw [if_pos hin]
      have key := laid_loop bs w hw hb n m (i + 1) (by omega) (by omega)
      rw [numB_succ] at key
      cases hbit : bs.getD i false with
      | true =>
        simp only [hbit, if_true] at key
        rw [cond_true]
        have hl : (0 : Int) ≤ ((i / 64 : Nat) : Int) ∧ ((i / 64 : Nat) : Int) < ((lay (numB (fun j => bs.getD j false) i) w).length : Int) := by rw [lay_length]; omega
        rw [if_pos hl, if_pos hl, lay_getD _ _ _ hiw, or_word _ _ _ (Nat.mod_lt _ (by decide)), if_neg (by
          rw [wu64 (by omega) (by omega)]; omega), lay_set _ _ _ hiw]
        exact key
      | false =>
        simp only [hbit, Bool.false_eq_true, if_false] at key
        rw [cond_false]
        exact key
    · have d1 : decide ((i : Int) < (bs.length : Int)) = false := decide_eq_false (by omega)
      simp only [d1]
      have : i = bs.length := by omega
      subst this
      exact ⟨_, rfl, rfl⟩
theorem laid_is (k : Nat) (bs : List Bool) (w : Nat) (hw : bs.length ≤ 64 * w) (hb : bs.length ≤ 1048576) (hw2 : w ≤ 16384) (hk : bs.length < k) : R27 (k + 1) bs (w : Int) = some (lay (numB (fun j => bs.getD j false) bs.length) w) := by
  rw [u27]
  unfold r27
  obtain ⟨z, hz, hl⟩ := laid_loop bs w hw hb k k 0 (by omega) (by omega)
  have e0 : List.replicate w (0 : Int) = lay (numB (fun j => bs.getD j false) 0) w := by
    apply List.ext_getElem
    · simp [lay]
    · intro i h1 h2; simp [lay, wd, numB]
  have hz' : J27_0 k k (bs, (w : Int), 0, lay (numB (fun j => bs.getD j false) 0) w) = some (.inl z) := hz
  rw [if_pos (by omega), Int.toNat_natCast, e0]
  dsimp only
  rw [hz']
  simp only [Option.bind_some, onSum, hl]
theorem mask_loop (b : List Int) (y : Int) (hb : b.length ≤ 1048576) (n : Nat) : ∀ (m i : Nat) (bs : List Bool), i ≤ b.length → b.length - i < m → bs.length = b.length → (∀ j, j < i → bs.getD j false = decide (b.getD j 0 = y)) →
    ∃ z, J14_0 n m (b, y, (i : Int), bs) = some (.inl z) ∧ z.1 = b ∧ z.2.2.2.length = b.length ∧ ∀ j, j < b.length → z.2.2.2.getD j false = decide (b.getD j 0 = y)
  | 0, i, bs, _, h, _, _ => by omega
  | m + 1, i, bs, hi, h, hl, hj => by
    rw [j14_0]
    unfold F14_0
    simp only
    by_cases c : i < b.length
    · have e4 : IntKind.wrap .i64 ((i : Int) + 1) = ((i + 1 : Nat) : Int) := by rw [w64 (by omega) (by omega)]; rfl
      have d1 : decide ((i : Int) < (b.length : Int)) = true := decide_eq_true (by omega)
      have hin : (0 : Int) ≤ (i : Int) ∧ (i : Int) < (b.length : Int) := by omega
      have hin2 : (0 : Int) ≤ (i : Int) ∧ (i : Int) < (bs.length : Int) := by omega
      simp only [d1, e4, cond_true, if_pos hin, if_pos hin2, Int.toNat_natCast]
      refine mask_loop b y hb n m (i + 1) _ (by omega) (by omega) (by simp [hl]) fun j hj' => ?_
      rw [List.getD_eq_getElem?_getD, List.getElem?_set]
      by_cases hji : i = j
      · subst hji
        rw [if_pos rfl, if_pos (by omega)]
        rfl
      · rw [if_neg hji, ← List.getD_eq_getElem?_getD]
        exact hj j (by omega)
    · have d1 : decide ((i : Int) < (b.length : Int)) = false := decide_eq_false (by omega)
      have : i = b.length := by omega
      subst this
      simp only [d1, cond_false]
      exact ⟨_, rfl, rfl, hl, hj⟩
theorem mask_is (k : Nat) (b : List Int) (y : Int) (hb : b.length ≤ 1048576) (hk : b.length < k) : R14 (k + 3) b y = some (lay (mkB b y b.length) ((b.length + 63) / 64)) := by
  rw [u14]
  unfold r14
  obtain ⟨z, hz, h1, h2, h3⟩ := mask_loop b y hb (k + 2) (k + 2) 0 (List.replicate b.length false) (by omega) (by omega) (by simp) (fun j hj => by omega)
  have hz' : J14_0 (k + 2) (k + 2) (b, y, 0, List.replicate b.length false) = some (.inl z) := hz
  dsimp only
  rw [if_pos (by omega), Int.toNat_natCast, hz']
  simp only [Option.bind_some, onSum, h1]
  rw [ref_words k _ (by omega) (by omega)]
  simp only [Option.bind_some]
  have e : ((b.length : Int) + 63) / 64 = (((b.length + 63) / 64 : Nat) : Int) := by omega
  rw [e, laid_is (k + 1) _ _ (by rw [h2]; omega) (by omega) (by omega) (by omega), h2, ← numB_mk, numB_congr (g := fun j => decide (b.getD j 0 = y)) _ h3]
  rfl
theorem same_loop (l : List Int) (hl : l.length ≤ 1048577) (n : Nat) : ∀ (m i : Nat), i ≤ l.length → l.length - i < m → ∃ z, J13_0 n m (l, l, (i : Int)) = some (.inl z)
  | 0, i, _, h => by omega
  | m + 1, i, hi, h => by
    rw [j13_0]
    unfold F13_0
    simp only
    by_cases c : i < l.length
    · have e1 : IntKind.wrap .i64 ((i : Int) + 1) = ((i + 1 : Nat) : Int) := by rw [w64 (by omega) (by omega)]; rfl
      rw [decide_eq_true (show (i : Int) < (l.length : Int) by omega), cond_true, if_pos (by omega), if_pos (by omega)]
      simp only [decide_true, Bool.not_true, cond_false, e1]
      exact same_loop l hl n m (i + 1) (by omega) (by omega)
    · rw [decide_eq_false (show ¬ (i : Int) < (l.length : Int) by omega), cond_false]
      exact ⟨_, rfl⟩
theorem same_self (k : Nat) (l : List Int) (hl : l.length ≤ 1048577) (hk : l.length < k) : R13 (k + 1) l l = some true := by
  rw [u13]
  unfold r13
  obtain ⟨z, hz⟩ := same_loop l hl k k 0 (by omega) (by omega)
  have hz' : J13_0 k k (l, l, 0) = some (.inl z) := hz
  simp [hz', onSum]
/-- A number's places, as the masks tell them, are the document's. -/
theorem maskOf_is (b : List Int) (y : Int) (hb : b.length ≤ 1048576) (hy : inI64 y = true) : maskOf (b, y) = some (lay (mkB b y b.length) ((b.length + 63) / 64)) := by
  have e : min b.length 1048576 = b.length := Nat.min_eq_left hb
  unfold maskOf maskWords
  simp only [hy, if_true, e]
  rw [Nat.mod_eq_of_lt (by rw [← numB_mk]; exact numB_lt _ _)]
  rfl
theorem wf_in {x : Int} (h : WF (.int .i64) x) : inI64 x = true := by
  have := wf_i64 h
  simp [inI64, this]
end Go.Proofs.Ytippdbhefcmebaa.EMaskApart
