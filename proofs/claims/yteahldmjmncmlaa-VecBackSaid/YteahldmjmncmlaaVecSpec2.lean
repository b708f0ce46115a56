import Derived.Test.YteahldmjmncmlaaPVx1
import Derived.Test.YteahldmjmncmlaaPVx16
import Derived.Test.YteahldmjmncmlaaPVx19
import Derived.Test.YteahldmjmncmlaaPVx2
import Derived.Test.YteahldmjmncmlaaPVx22
import Derived.Test.YteahldmjmncmlaaVecSpec
import Derived.Test.YteahldmjmncmlaaVecPopIs
namespace Go.Proofs.Yteahldmjmncmlaa.VecSpec2
open Go.RowKit Go.Proofs.YteahldmjmncmlaaW.PrintWords Go.Proofs.YteahldmjmncmlaaW.PrintMore Go.Proofs.Yteahldmjmncmlaa.XBits Go.Proofs.Yteahldmjmncmlaa.VecMath Go.Proofs.Yteahldmjmncmlaa.VecSpec Go.Proofs.Yteahldmjmncmlaa.PV

/-! What package vec computes: bits by themselves, how many are 1. -/
theorem div64 (i : Nat) (h : i < 9223372036854775808) : wrap64 (Int.tdiv (i : Int) 64) = ((i / 64 : Nat) : Int) := by
  rw [Int.tdiv_eq_ediv_of_nonneg (Int.natCast_nonneg _), wrap64_id (by omega) (by omega)]
  omega
theorem mod64 (i : Nat) : IntKind.u64.wrap (Int.tmod (i : Int) 64) = ((i % 64 : Nat) : Int) := by
  rw [Int.tmod_eq_emod_of_nonneg (Int.natCast_nonneg _), wraps_u64 _ (by omega) (by omega)]
  omega
theorem bit_of (N i : Nat) (hN : N < 2 ^ 64) (hi : i < 64) : (Go.bits .and .u64 (shr .u64 (N : Int) (i : Int)) 1 == 1) = N.testBit i := by
  rw [shr_nat (by omega), show (1 : Int) = ((1 : Nat) : Int) from rfl, band (Nat.lt_of_le_of_lt (Nat.div_le_self _ _) hN) (by decide), Nat.and_one_is_mod, two_digit 0]
  cases N.testBit i <;> rfl
/-- Is there a place, and is its bit 1? -/
def bit (N : Nat) (i : Int) : Bool := decide (0 ≤ i) && N.testBit i.toNat
theorem bit_nat (N i : Nat) : bit N (i : Int) = N.testBit i := by
  unfold bit
  rw [Int.toNat_natCast, decide_eq_true (Int.natCast_nonneg _), Bool.true_and]
theorem bit_neg {N : Nat} {i : Int} (h : ¬ 0 ≤ i) : bit N i = false := by
  unfold bit
  rw [decide_eq_false h, Bool.false_and]
theorem inside_nat (x : List Int) (i : Nat) (hi : i < 9223372036854775808) : vec_inside.f x (i : Int) = some (decide (((i / 64 : Nat) : Int) < (x.length : Int))) := by
  have h0 : (i : Int) ≥ 0 := Int.natCast_nonneg _
  unfold vec_inside.f
  rw [if_pos h0, div64 i hi]
theorem Get_is (x : List Int) (h : OK x) (i : Int) (hi : i < 9223372036854775808) : vec_Get.f x i = some (bit (val x) i) := by
  by_cases h0 : 0 ≤ i
  · obtain ⟨n, rfl⟩ := Int.eq_ofNat_of_zero_le h0
    have hn : (n : Int) < 9223372036854775808 := hi
    have hn' : n < 9223372036854775808 := by omega
    have h1 : (0 : Int) ≤ ((n / 64 : Nat) : Int) := Int.natCast_nonneg _
    have h2 : (0 : Int) ≤ ((n % 64 : Nat) : Int) := Int.natCast_nonneg _
    rw [bit_nat]
    unfold vec_Get.f
    rw [inside_nat x n hn', Option.bind_some, div64 n hn', mod64]
    by_cases hl : ((n / 64 : Nat) : Int) < (x.length : Int)
    · rw [decide_eq_true hl, if_pos rfl, if_pos h1, if_pos hl, if_pos h2]
      unfold rd
      rw [Int.toNat_natCast, val_word h, bit_of _ _ (wd_lt _ _) (Nat.mod_lt _ (by decide)), wd_testBit, decide_eq_true (Nat.mod_lt _ (by decide)), Bool.true_and, Nat.div_add_mod]
    · rw [decide_eq_false hl, if_neg (by decide), val_testBit_out h (by omega)]
  · rw [bit_neg h0]
    unfold vec_Get.f vec_inside.f
    rw [if_neg h0, Option.bind_some, if_neg (by decide)]
/-- A number with one more bit, if there is a place for it. -/
def setN (N n : Nat) (i : Int) : Nat := if 0 ≤ i ∧ i.toNat / 64 < n then N ||| 2 ^ i.toNat else N
theorem Set_is (x : List Int) (h : OK x) (hl : x.length < 17592186044416) (i : Int) (hi : i < 9223372036854775808) : vec_Set.f x i = some (lay (setN (val x) x.length i) x.length) := by
  have hc : slices_Clone_uint64_uint64.f x = some x := by
    unfold slices_Clone_uint64_uint64.f
    rw [Option.bind_some, if_pos (by rw [List.length_nil]; omega), List.nil_append]
  unfold vec_Set.f setN
  rw [hc, Option.bind_some]
  by_cases h0 : 0 ≤ i
  · obtain ⟨n, rfl⟩ := Int.eq_ofNat_of_zero_le h0
    have hn : (n : Int) < 9223372036854775808 := hi
    have hn' : n < 9223372036854775808 := by omega
    have h1 : (0 : Int) ≤ ((n / 64 : Nat) : Int) := Int.natCast_nonneg _
    have h2 : (0 : Int) ≤ ((n % 64 : Nat) : Int) := Int.natCast_nonneg _
    have ht : (n : Int).toNat = n := Int.toNat_natCast n
    rw [inside_nat x n hn', Option.bind_some, div64 n hn', mod64, ht]
    by_cases hq : ((n / 64 : Nat) : Int) < (x.length : Int)
    · have hqn : n / 64 < x.length := by omega
      have hp : 2 ^ (n % 64) < 2 ^ 64 := Nat.pow_lt_pow_right (by decide) (Nat.mod_lt _ (by decide))
      rw [decide_eq_true hq, if_pos rfl, if_pos h1, if_pos hq, if_pos h2, if_pos ⟨h0, hqn⟩]
      unfold rd
      rw [Int.toNat_natCast, val_word h, shl_one (Nat.mod_lt _ (by decide)), bor (wd_lt _ _) hp]
      have e := lay_set (val x) x.length n hqn
      rw [lay_val h] at e
      rw [e]
    · have hqn : ¬ (0 ≤ (n : Int) ∧ n / 64 < x.length) := by omega
      rw [decide_eq_false hq, if_neg (by decide), if_neg hqn, lay_val h]
  · unfold vec_inside.f
    have hqn : ¬ (0 ≤ i ∧ i.toNat / 64 < x.length) := fun z => h0 z.1
    rw [if_neg h0, Option.bind_some, if_neg (by decide), if_neg hqn, lay_val h]
/-- How many bits the first words have. -/
theorem cnt_words (N : Nat) : ∀ i, cnt N (64 * (i + 1)) = cnt N (64 * i) + cnt (wd N i) 64 := by
  intro i
  rw [show 64 * (i + 1) = 64 * i + 64 by omega, cnt_add]
  congr 1
  apply cnt_congr
  intro j hj
  rw [wd_testBit, decide_eq_true hj, Bool.true_and, Nat.testBit_div_two_pow, Nat.add_comm]
theorem sum_is (N n : Nat) (hn : n ≤ 16384) : Ev (fun k => vec_Count.l0 k 0 (lay N n) (n : Int) 0) (cnt N (64 * n) : Int) := by
  have key : ∀ d i, i + d = n → Ev (fun k => vec_Count.l0 k (cnt N (64 * i) : Int) (lay N n) (n : Int) (i : Int)) (cnt N (64 * n) : Int) := by
    intro d
    induction d with
    | zero =>
      intro i hi
      obtain rfl : i = n := by omega
      have : ¬ ((i : Int) < (i : Int)) := by omega
      refine Ev.step (fun k => ?_) (Ev.now _)
      simp only [vec_Count.l0]
      rw [if_neg this]
    | succ d ih =>
      intro i hi
      have h1 : (i : Int) < (n : Int) := by omega
      have h0 : (0 : Int) ≤ (i : Int) := Int.natCast_nonneg _
      have hl : (i : Int) < ((lay N n).length : Int) := by rw [lay_length]; exact h1
      have hr : rd (lay N n) (i : Int) = (wd N i : Int) := by
        unfold rd
        rw [Int.toNat_natCast, lay_getD _ _ _ (by omega)]
      have c1 := cnt_le N (64 * i)
      have c2 := cnt_le (wd N i) 64
      refine Ev.step (fun k => ?_) (ih (i + 1) (by omega))
      simp only [vec_Count.l0]
      rw [if_pos h1, if_pos h0, if_pos hl, hr, VecPopIs.pop_is _ (wd_lt _ _), Option.bind_some, wrap64_id (n := (i : Int) + 1) (by omega) (by omega), wrap64_id (by omega) (by omega), cnt_words]
      rfl
  exact key n 0 (by omega)
theorem Count_is (x : List Int) (n : Int) (hx : OK x) : Ev (fun k => vec_Count.f k x n) (cnt (val x) (wid n) : Int) := by
  unfold vec_Count.f
  refine Ev.bind (Fit_is x n hx) ?_
  have h1 := wds_le n
  have h2 := sum_is (val x % 2 ^ wid n) (wds n) h1
  rw [lay_length]
  have e : cnt (val x % 2 ^ wid n) (64 * wds n) = cnt (val x) (wid n) := by
    have h3 := wid_wds n
    generalize wid n = w at *
    obtain ⟨d, hd⟩ : ∃ d, 64 * wds n = w + d := ⟨64 * wds n - w, by omega⟩
    rw [hd, cnt_more]
    · apply cnt_congr
      intro i hi
      rw [Nat.testBit_mod_two_pow, decide_eq_true hi, Bool.true_and]
    · intro i hi _
      rw [Nat.testBit_mod_two_pow, decide_eq_false (by omega), Bool.false_and]
  rw [e] at h2
  exact h2
end Go.Proofs.Yteahldmjmncmlaa.VecSpec2
