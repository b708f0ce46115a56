import Derived.Test.YtbbbcdfagmcfgaaResKit
import Derived.Test.YtbbbcdfagmcfgaaVecMath
import Derived.Test.YtbbbcdfagmcfgaaResWalkRuns
namespace Go.Proofs.Ytbbbcdfagmcfgaa.EWalkRuns
open Go Go.Proofs.Ytbbbcdfagmcfgaa.AE Go.Proofs.Ytbbbcdfagmcfgaa.VecMath
set_option linter.unusedVariables false
set_option linter.unusedSimpArgs false
/-! What tattingref5's functions come to. -/
theorem neg64 : ¬ ((64 : Int) = 0) := by decide
theorem ref_words (k : Nat) (m : Int) (h0 : 0 ≤ m) (h1 : m ≤ 1048576) : R33 (k + 2) m = some ((m + 63) / 64) := by
  have e : R46 (k + 1) m = some m := by
    rw [u46]
    unfold r46
    have h2 : ¬ m < 0 := by omega
    have h3 : ¬ m > 1048576 := by omega
    simp [h2, h3]
  rw [u33]
  unfold r33
  rw [e]
  simp only [Option.bind_some]
  have e2 : IntKind.wrap .i64 (m + 63) = m + 63 := w64 (by omega) (by omega)
  have e3 : IntKind.wrap .i64 ((m + 63) / 64) = (m + 63) / 64 := w64 (by omega) (by omega)
  rw [e2, Int.tdiv_eq_ediv_of_nonneg (by omega), e3, if_neg neg64]
/-- A number of bits. -/
def numB (f : Nat → Bool) : Nat → Nat
  | 0 => 0
  | j + 1 => if f j then numB f j ||| 2 ^ j else numB f j
theorem numB_succ (f : Nat → Bool) (j : Nat) : numB f (j + 1) = if f j then numB f j ||| 2 ^ j else numB f j := rfl
theorem numB_congr {f g : Nat → Bool} : ∀ n, (∀ j, j < n → f j = g j) → numB f n = numB g n
  | 0, _ => rfl
  | n + 1, h => by unfold numB; rw [h n (by omega), numB_congr n fun j hj => h j (by omega)]
theorem numB_mk (b : List Int) (y : Int) : ∀ n, numB (fun j => decide (b.getD j 0 = y)) n = mkB b y n
  | 0 => rfl
  | n + 1 => by
    unfold numB mkB
    rw [numB_mk b y n]
    by_cases h : b.getD n 0 = y <;> simp [h]
theorem numB_lt (f : Nat → Bool) : ∀ n, numB f n < 2 ^ n
  | 0 => by simp [numB]
  | n + 1 => by
    have ih := numB_lt f n
    unfold numB
    split
    · exact Nat.or_lt_two_pow (Nat.lt_of_lt_of_le ih (Nat.pow_le_pow_right (by decide) (by omega))) (Nat.pow_lt_pow_right (by decide) (by omega))
    · exact Nat.lt_of_lt_of_le ih (Nat.pow_le_pow_right (by decide) (by omega))
theorem numB_bit (f : Nat → Bool) (i : Nat) : ∀ n, (numB f n).testBit i = (decide (i < n) && f i)
  | 0 => by simp [numB]
  | n + 1 => by
    have ih := numB_bit f i n
    unfold numB
    by_cases h : f n
    · rw [if_pos h, Nat.testBit_or, ih]
      by_cases hi : i = n
      · subst hi; simp [h, Nat.testBit_two_pow_self]
      · rw [Nat.testBit_two_pow_of_ne (by omega), Bool.or_false]
        congr 1; simp; omega
    · rw [if_neg h, ih]
      by_cases hi : i = n
      · subst hi; simp [h]
      · congr 1; simp; omega
theorem or_word (N k c : Nat) (hc : c < 64) : bitop .or .u64 ((wd N k : Nat) : Int) (IntKind.wrap .u64 ((1 : Int) * 2 ^ (min (IntKind.wrap .u64 (c : Int)).toNat (IntKind.bits .u64)))) = ((wd N k ||| 2 ^ c : Nat) : Int) := by
  have e1 : IntKind.wrap .u64 (c : Int) = (c : Int) := wu64 (by omega) (by omega)
  have e2 : min c (IntKind.bits .u64) = c := Nat.min_eq_left (by show c ≤ 64; omega)
  have hp : 2 ^ c < 2 ^ 64 := Nat.pow_lt_pow_right (by decide) hc
  have e3 : (1 : Int) * 2 ^ c = ((2 ^ c : Nat) : Int) := by rw [Int.one_mul, Int.natCast_pow]; rfl
  have e4 : ((1 : Int) * 2 ^ c) = ((2 ^ c : Nat) : Int) := e3
  rw [e1, Int.toNat_natCast, e2, e4]
  generalize 2 ^ c = Q at hp
  rw [wu64 (by omega) (by omega)]
  exact bor (wd_lt N k) hp
/-- A number's places, as the masks tell them, are the document's. -/
theorem maskOf_is (b : List Int) (y : Int) (hb : b.length ≤ 1048576) (hy : inI64 y = true) : maskOf (b, y) = some (lay (mkB b y b.length) ((b.length + 63) / 64)) := by
  have e : min b.length 1048576 = b.length := Nat.min_eq_left hb
  unfold maskOf maskWords
  simp only [hy, if_true, e]
  rw [Nat.mod_eq_of_lt (by rw [← numB_mk]; exact numB_lt _ _)]
  rfl
theorem wf_in {x : Int} (h : WF (.int .i64) x) : inI64 x = true := by
  have := wf_i64 h
  simp [inI64, this]
end Go.Proofs.Ytbbbcdfagmcfgaa.EWalkRuns
