import Derived.Test.YtbbbcdfagmcfgaaWP
import Derived.Test.YtbbbcdfagmcfgaaVecMath
import Derived.Test.YtbbbcdfagmcfgaaVecSpecWid
namespace Go.Proofs.Ytbbbcdfagmcfgaa.RowSpec
open Go.RowKit Go.Proofs.Ytbbbcdfagmcfgaa.VecMath Go.Proofs.Ytbbbcdfagmcfgaa.VecSpec
/-- The next row, as a number. -/
def rowN (V U w : Nat) : Nat := ((V % 2 ^ w + (V % 2 ^ w &&& U % 2 ^ w)) ||| (V % 2 ^ w - (V % 2 ^ w &&& U % 2 ^ w))) % 2 ^ w
theorem rowN_lt (V U w : Nat) : rowN V U w < 2 ^ w := Nat.mod_lt _ (Nat.two_pow_pos _)
theorem rowN_mod (V U w : Nat) : rowN (V % 2 ^ w) (U % 2 ^ w) w = rowN V U w := by
  unfold rowN
  rw [Nat.mod_mod, Nat.mod_mod]
theorem bow_no (X Y : Nat) (h : ∀ i, Y.testBit i = true → X.testBit i = true) : ∀ i, decide (bow X Y (2 ^ i) = 1) = false
  | 0 => by rw [bow_zero]; rfl
  | i + 1 => by
    rw [bow_bit, bow_no X Y h i]
    have := h i
    revert this
    cases X.testBit i <;> cases Y.testBit i <;> simp
theorem sub_bit (X Y : Nat) (h : ∀ i, Y.testBit i = true → X.testBit i = true) (i : Nat) : (X - Y).testBit i = (X.testBit i && !Y.testBit i) := by
  have hle : Y ≤ X := by
    have e : X &&& Y = Y := by
      apply Nat.eq_of_testBit_eq
      intro i
      rw [Nat.testBit_and]
      have := h i
      revert this
      cases X.testBit i <;> cases Y.testBit i <;> simp
    rw [← e]
    exact Nat.and_le_left
  have hy : Y < 2 ^ (Y + i + 1) := Nat.lt_of_lt_of_le (Nat.lt_two_pow_self) (Nat.pow_le_pow_right (by decide) (by omega))
  have e := bit_sub X Y (Y + i + 1) i (by omega) hy
  have e2 : X + 2 ^ (Y + i + 1) - Y = 2 ^ (Y + i + 1) + (X - Y) := by omega
  rw [e2, Nat.testBit_two_pow_add_gt (by omega)] at e
  rw [e, bow_no X Y h i]
  have := h i
  revert this
  cases X.testBit i <;> cases Y.testBit i <;> simp
theorem low_bit (X w i : Nat) (h : i < w) : (X % 2 ^ w).testBit i = X.testBit i := by
  rw [Nat.testBit_mod_two_pow]
  simp [h]
theorem num_croch (V U w W : Nat) (hw : w ≤ W) (I : Nat) (hI : ∀ i, I.testBit i = (decide (i < w) && !(U % 2 ^ w).testBit i)) :
    ((V % 2 ^ w + (V % 2 ^ w &&& U % 2 ^ w)) % 2 ^ W ||| (V % 2 ^ w &&& I)) % 2 ^ w = rowN V U w := by
  unfold rowN
  generalize hV : V % 2 ^ w = A
  generalize hU : U % 2 ^ w = B at *
  apply Nat.eq_of_testBit_eq
  intro i
  rw [Nat.testBit_mod_two_pow, Nat.testBit_mod_two_pow]
  by_cases h : i < w
  · simp only [h, decide_true, Bool.true_and, Nat.testBit_or, Nat.testBit_and, hI]
    rw [low_bit _ _ _ (by omega), sub_bit A (A &&& B) (fun i hi => by rw [Nat.testBit_and, Bool.and_eq_true] at hi; exact hi.1), Nat.testBit_and]
    cases (A + (A &&& B)).testBit i <;> cases A.testBit i <;> cases B.testBit i <;> rfl
  · simp [h]
theorem num_hyyro (V U w W : Nat) (hw : w ≤ W) :
    ((V % 2 ^ w + (V % 2 ^ w &&& U % 2 ^ w)) % 2 ^ W ||| (V % 2 ^ w + 2 ^ W - (V % 2 ^ w &&& U % 2 ^ w)) % 2 ^ W) % 2 ^ w = rowN V U w := by
  have hA : V % 2 ^ w < 2 ^ W := Nat.lt_of_lt_of_le (Nat.mod_lt _ (Nat.two_pow_pos _)) (Nat.pow_le_pow_right (by decide) hw)
  have hX : (V % 2 ^ w &&& U % 2 ^ w) ≤ V % 2 ^ w := Nat.and_le_left
  unfold rowN
  have e : (V % 2 ^ w + 2 ^ W - (V % 2 ^ w &&& U % 2 ^ w)) % 2 ^ W = V % 2 ^ w - (V % 2 ^ w &&& U % 2 ^ w) := by
    have e2 : V % 2 ^ w + 2 ^ W - (V % 2 ^ w &&& U % 2 ^ w) = V % 2 ^ w - (V % 2 ^ w &&& U % 2 ^ w) + 2 ^ W := by omega
    rw [e2, Nat.add_mod_right, Nat.mod_eq_of_lt (by omega)]
  rw [e]
  apply Nat.eq_of_testBit_eq
  intro i
  rw [Nat.testBit_mod_two_pow, Nat.testBit_mod_two_pow]
  by_cases h : i < w
  · simp only [h, decide_true, Bool.true_and, Nat.testBit_or]
    rw [low_bit _ _ _ (by omega)]
  · simp [h]
end Go.Proofs.Ytbbbcdfagmcfgaa.RowSpec
