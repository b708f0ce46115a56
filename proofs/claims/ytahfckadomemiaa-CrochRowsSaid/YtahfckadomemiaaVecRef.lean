import Derived.Test.YtahfckadomemiaaPVx4
import Derived.Test.YtahfckadomemiaaPVx7
import Derived.Test.YtahfckadomemiaaVecMath
namespace Go.Proofs.Ytahfckadomemiaa.VecRef
open Go.RowKit Go.Proofs.YtahfckadomemiaaW.PrintWords Go.Proofs.YtahfckadomemiaaW.PrintMore Go.Proofs.Ytahfckadomemiaa.XBits Go.Proofs.Ytahfckadomemiaa.VecMath Go.Proofs.Ytahfckadomemiaa.PV

/-! What the reference of chapter 5 computes: bits one by one. -/

theorem div64 (i : Nat) (h : i < 9223372036854775808) : wrap64 (Int.tdiv (i : Int) 64) = ((i / 64 : Nat) : Int) := by
  rw [Int.tdiv_eq_ediv_of_nonneg (Int.natCast_nonneg _), wrap64_id (by omega) (by omega)]
  omega
theorem mod64 (i : Nat) : IntKind.u64.wrap (Int.tmod (i : Int) 64) = ((i % 64 : Nat) : Int) := by
  rw [Int.tmod_eq_emod_of_nonneg (Int.natCast_nonneg _), wraps_u64 _ (by omega) (by omega)]
  omega
theorem bit_of (N i : Nat) (hN : N < 2 ^ 64) (hi : i < 64) : (Go.bits .and .u64 (shr .u64 (N : Int) (i : Int)) 1 == 1) = N.testBit i := by
  rw [shr_nat (by omega), show (1 : Int) = ((1 : Nat) : Int) from rfl, band (Nat.lt_of_le_of_lt (Nat.div_le_self _ _) hN) (by decide), Nat.and_one_is_mod, two_digit 0]
  cases N.testBit i <;> rfl
/-- Is there a place, and is its bit 1? -/
def bit (N : Nat) (i : Int) : Bool := decide (0 ≤ i) && N.testBit i.toNat
theorem bit_nat (N i : Nat) : bit N (i : Int) = N.testBit i := by
  unfold bit
  rw [Int.toNat_natCast, decide_eq_true (Int.natCast_nonneg _), Bool.true_and]
theorem Laid_is (N n w : Nat) (hn : n < 4611686018427387904) (hw : w ≤ 35184372088832) : Ev (fun k => tattingref5_Laid.f k (bitsOf N n) (w : Int)) (lay (N % 2 ^ n) w) := by
  have h0 : (0 : Int) ≤ (w : Int) := Int.natCast_nonneg _
  have key : ∀ d i, i + d = n → Ev (fun k => tattingref5_Laid.l0 k (bitsOf N n) (w : Int) (lay (N % 2 ^ i) w) (i : Int)) (lay (N % 2 ^ n) w) := by
    intro d
    induction d with
    | zero =>
      intro i hi
      obtain rfl : i = n := by omega
      have hlt : ¬ ((i : Int) < ((bitsOf N i).length : Int)) := by rw [bitsOf_length]; omega
      refine Ev.step (f := fun k => tattingref5_Laid.j1 k (bitsOf N i) (w : Int) (lay (N % 2 ^ i) w) (i : Int) false) (fun k => ?_) ?_
      · simp only [tattingref5_Laid.l0]
        rw [if_neg hlt]
      · refine Ev.step (fun k => ?_) (Ev.now _)
        simp only [tattingref5_Laid.j1]
        rfl
    | succ d ih =>
      intro i hi
      have hlt : (i : Int) < ((bitsOf N n).length : Int) := by rw [bitsOf_length]; omega
      have hi0 : (0 : Int) ≤ (i : Int) := Int.natCast_nonneg _
      refine Ev.step (f := fun k => tattingref5_Laid.j1 k (bitsOf N n) (w : Int) (lay (N % 2 ^ i) w) (i : Int) (decide (((i / 64 : Nat) : Int) < (w : Int)))) (fun k => ?_) ?_
      · simp only [tattingref5_Laid.l0]
        rw [if_pos hlt, div64 i (by omega)]
      · by_cases hq : ((i / 64 : Nat) : Int) < (w : Int)
        · rw [decide_eq_true hq]
          have hd0 : (0 : Int) ≤ ((i / 64 : Nat) : Int) := Int.natCast_nonneg _
          have hm0 : (0 : Int) ≤ ((i % 64 : Nat) : Int) := Int.natCast_nonneg _
          have hql : ((i / 64 : Nat) : Int) < ((lay (N % 2 ^ i) w).length : Int) := by rw [lay_length]; exact hq
          have hbit : rdOf false (bitsOf N n) (i : Int) = N.testBit i := by
            unfold rdOf
            rw [Int.toNat_natCast, bitsOf_getD _ _ _ (by omega)]
          have hnext : wrap64 ((i : Int) + 1) = ((i + 1 : Nat) : Int) := by rw [wrap64_id (by omega) (by omega)]; omega
          have ih := ih (i + 1) (by omega)
          refine Ev.step (fun k => ?_) ih
          simp only [tattingref5_Laid.j1]
          rw [if_pos trivial, if_pos hi0, if_pos hlt, hbit, hnext, div64 i (by omega), mod64, if_pos hd0, if_pos hql, if_pos hm0]
          have hqn : i / 64 < w := by omega
          cases hb : N.testBit i with
          | true =>
            rw [if_pos rfl, mod_succ_or hb]
            unfold rd
            have hp : 2 ^ (i % 64) < 2 ^ 64 := Nat.pow_lt_pow_right (by decide) (Nat.mod_lt _ (by decide))
            rw [Int.toNat_natCast, lay_getD _ _ _ hqn, shl_one (Nat.mod_lt _ (by decide)), bor (wd_lt _ _) hp, lay_set _ _ _ hqn]
          | false =>
            rw [if_neg (by decide), mod_succ_no hb]
        · rw [decide_eq_false hq]
          refine Ev.step (fun k => ?_) (Ev.now _)
          simp only [tattingref5_Laid.j1]
          rw [if_neg (by decide)]
          congr 1
          apply lay_congr
          intro j hj
          rw [Nat.testBit_mod_two_pow, Nat.testBit_mod_two_pow]
          have h1 : j < i := by omega
          have h2 : j < n := by omega
          rw [decide_eq_true h1, decide_eq_true h2]
  have h1 : List.replicate w (0 : Int) = lay (N % 2 ^ 0) w := by
    apply List.ext_getElem
    · simp [lay]
    · intro k h1 h2
      simp [lay, wd, Nat.mod_one]
  have := key n 0 (by omega)
  unfold tattingref5_Laid.f
  simp only [if_pos h0, Int.toNat_natCast, if_pos hw, h1]
  exact this
theorem Laid_all (N w : Nat) (hw : w ≤ 35184372088832) : Ev (fun k => tattingref5_Laid.f k (bitsOf N (64 * w)) (w : Int)) (lay N w) := by
  have := Laid_is N (64 * w) w (by omega) hw
  rw [lay_mod] at this
  exact this
theorem Same_is (x y : List Int) (hl : x.length = y.length) (hx : x.length < 9223372036854775807) (h : x = y) : Ev (fun k => tattingref5_Same.f k x y) true := by
  subst h
  have key : ∀ d i, i + d = x.length → Ev (fun k => tattingref5_Same.l0 k x x (i : Int)) true := by
    intro d
    induction d with
    | zero =>
      intro i hi
      have : ¬ ((i : Int) < (x.length : Int)) := by omega
      refine Ev.step (fun k => ?_) (Ev.now _)
      simp only [tattingref5_Same.l0]
      rw [if_neg this]
    | succ d ih =>
      intro i hi
      have h1 : (i : Int) < (x.length : Int) := by omega
      have h0 : (0 : Int) ≤ (i : Int) := Int.natCast_nonneg _
      refine Ev.step (fun k => ?_) (ih (i + 1) (by omega))
      simp only [tattingref5_Same.l0]
      rw [if_pos h1, if_pos h0, if_pos h1, if_pos trivial, wrap64_id (by omega) (by omega)]
      rfl
  unfold tattingref5_Same.f
  simp only [if_true]
  exact key x.length 0 (by omega)
theorem Same_lay (N M n : Nat) (hn : n < 9223372036854775807) (h : lay N n = lay M n) : Ev (fun k => tattingref5_Same.f k (lay N n) (lay M n)) true :=
  Same_is _ _ (by rw [lay_length, lay_length]) (by rw [lay_length]; exact hn) h
theorem Same_eq (x : List Int) (hx : x.length < 9223372036854775807) : Ev (fun k => tattingref5_Same.f k x x) true := Same_is x x rfl hx rfl

/-! ### Sums and the like -/
def mlen' (x y : List Int) : Nat := max x.length y.length
theorem mx_len' (x y : List Int) : mx (x.length : Int) (y.length : Int) = (mlen' x y : Int) := by
  unfold mx mlen'
  split <;> omega
theorem bits_len (x y : List Int) (hl : mlen' x y ≤ 35184372088832) : wrap64 (64 * (mlen' x y : Int)) = ((64 * mlen' x y : Nat) : Int) := by
  rw [wrap64_id (by omega) (by omega)]
  omega
theorem next_ (i n : Nat) (h : i < n) (hn : n ≤ 4611686018427387904) : wrap64 ((i : Int) + 1) = (i : Int) + 1 := wrap64_id (by omega) (by omega)

end Go.Proofs.Ytahfckadomemiaa.VecRef
