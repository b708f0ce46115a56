import Derived.Test.YtbbbcdfagmcfgaaWP
import Derived.Test.YtbbbcdfagmcfgaaVecMath
import Derived.Test.YtbbbcdfagmcfgaaVecSpecAt
namespace Go.Proofs.Ytbbbcdfagmcfgaa.VecSpec
open Go.RowKit Go.Proofs.YtbbbcdfagmcfgaaW.PrintWords Go.Proofs.YtbbbcdfagmcfgaaW.PrintMore Go.Proofs.Ytbbbcdfagmcfgaa.XBits Go.Proofs.Ytbbbcdfagmcfgaa.VecMath Go.Proofs.Ytbbbcdfagmcfgaa.PV

/-! ### Widths -/
/-- A width as it counts; how many words hold it. -/
def wid (n : Int) : Nat := min n.toNat 1048576
def wds (n : Int) : Nat := (wid n + 63) / 64
theorem num_lt (w k : Nat) (h : k < (w + 63) / 64) : 64 * k < w := by omega
theorem num_le (w : Nat) (h : w ≤ 1048576) : (w + 63) / 64 ≤ 16384 := by omega
theorem num_ge (w : Nat) : w ≤ 64 * ((w + 63) / 64) := by omega
theorem wid_le (n : Int) : wid n ≤ 1048576 := Nat.min_le_right _ _
theorem wds_le (n : Int) : wds n ≤ 16384 := num_le (wid n) (wid_le n)
theorem wid_wds (n : Int) : wid n ≤ 64 * wds n := num_ge (wid n)
theorem width_is (n : Int) : vec_width.f n = some (wid n : Int) := by
  unfold vec_width.f mn mx wid
  congr 1
  split <;> split <;> omega
theorem Words_is (n : Int) : vec_Words.f n = some (wds n : Int) := by
  have := wid_le n
  unfold vec_Words.f
  rw [width_is]
  simp only [Option.bind_some]
  congr 1
  unfold wds
  rw [wrap64_id (n := (wid n : Int) + 64) (by omega) (by omega), wrap64_id (n := (wid n : Int) + 64 - 1) (by omega) (by omega), show (wid n : Int) + 64 - 1 = ((wid n + 63 : Nat) : Int) by omega, Int.tdiv_eq_ediv_of_nonneg (by omega), wrap64_id (by omega) (by omega)]
  omega
theorem wd_ones (w k : Nat) : wd (2 ^ w - 1) k = 2 ^ (min 64 (w - 64 * k)) - 1 := by
  apply Nat.eq_of_testBit_eq
  intro j
  rw [wd_testBit, Nat.testBit_two_pow_sub_one, Nat.testBit_two_pow_sub_one]
  by_cases hj : j < 64
  · by_cases h : 64 * k + j < w
    · have : j < min 64 (w - 64 * k) := by omega
      simp [hj, h, this]
    · have : ¬ j < min 64 (w - 64 * k) := by omega
      simp [h, this]
  · have : ¬ j < min 64 (w - 64 * k) := by omega
    simp [hj, this]
theorem wrap_low (c : Nat) (hc64 : c < 64) : IntKind.u64.wrap (((2 ^ c : Nat) : Int) - 1) = ((2 ^ c - 1 : Nat) : Int) := by
  have hp : 0 < 2 ^ c := Nat.two_pow_pos _
  have hlt : 2 ^ c < 2 ^ 64 := Nat.pow_lt_pow_right (by decide) hc64
  generalize 2 ^ c = P at *
  rw [wraps_u64 _ (by omega) (by omega)]
  omega
theorem wrap_count (c : Nat) (hc64 : c < 64) : IntKind.u64.wrap (c : Int) = (c : Int) := by
  rw [wraps_u64 _ (by omega) (by omega)]
theorem mask_at (w k : Nat) (h3 : 64 * k < w) (t : Int) (ht : t = (w : Int) - 64 * (k : Int)) :
    (if t ≥ 64 then some (18446744073709551615 : Int) else if 0 ≤ IntKind.u64.wrap t then some (IntKind.u64.wrap (shl .u64 1 (IntKind.u64.wrap t) - 1)) else none) = some (wd (2 ^ w - 1) k : Int) := by
  rw [wd_ones]
  by_cases h : t ≥ 64
  · have e64 : ((2 ^ 64 - 1 : Nat) : Int) = 18446744073709551615 := by decide
    rw [if_pos h, Nat.min_eq_left (by omega), e64]
  · obtain ⟨c, hc⟩ : ∃ c : Nat, t = (c : Int) := ⟨w - 64 * k, by omega⟩
    have hc64 : c < 64 := by omega
    have hcw : w - 64 * k = c := by omega
    have h0 : (0 : Int) ≤ (c : Int) := Int.natCast_nonneg _
    rw [if_neg h, hcw, Nat.min_eq_right (by omega), hc, wrap_count c hc64, if_pos h0, shl_one hc64, wrap_low c hc64]
theorem mask_is (n : Int) (k : Nat) (hk : k < wds n) : vec_mask.f n (k : Int) = some (wd (2 ^ wid n - 1) k : Int) := by
  have h1 := wid_le n
  have h3 : 64 * k < wid n := num_lt (wid n) k hk
  clear hk
  unfold vec_mask.f
  rw [width_is, Option.bind_some]
  generalize wid n = w at *
  rw [wrap64_id (n := 64 * (k : Int)) (by omega) (by omega)]
  exact mask_at w k h3 _ (wrap64_id (by omega) (by omega))
end Go.Proofs.Ytbbbcdfagmcfgaa.VecSpec
