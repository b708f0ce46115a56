/- Texts put together. -/
import Derived.Test.YtahfckadomemiaaPVx1
import Derived.Test.YtahfckadomemiaaVecMath
import Derived.Test.YtahfckadomemiaaPVx2
import Derived.Test.YtahfckadomemiaaVecPopIs
namespace Go.Proofs.Ytahfckadomemiaa.VecSpec
open Go.RowKit Go.Proofs.YtahfckadomemiaaW.PrintWords Go.Proofs.YtahfckadomemiaaW.PrintMore Go.Proofs.Ytahfckadomemiaa.XBits Go.Proofs.Ytahfckadomemiaa.VecMath Go.Proofs.Ytahfckadomemiaa.PV

theorem at_is (x : List Int) (h : OK x) (i : Nat) : vec_at.f x (i : Int) = some (wd (val x) i : Int) := by
  unfold vec_at.f
  by_cases hi : (i : Int) < (x.length : Int)
  · rw [if_pos hi, if_pos (Int.natCast_nonneg _)]
    unfold rd
    rw [Int.toNat_natCast, val_word h]
  · rw [if_neg hi, ← val_word h, List.getD_eq_getElem?_getD, List.getElem?_eq_none (by omega)]
    rfl
theorem wd_and (X Y k : Nat) : wd (X &&& Y) k = wd X k &&& wd Y k := by
  apply Nat.eq_of_testBit_eq
  intro j
  rw [Nat.testBit_and, wd_testBit, wd_testBit, wd_testBit, Nat.testBit_and]
  cases decide (j < 64) <;> simp
theorem wd_or (X Y k : Nat) : wd (X ||| Y) k = wd X k ||| wd Y k := by
  apply Nat.eq_of_testBit_eq
  intro j
  rw [Nat.testBit_or, wd_testBit, wd_testBit, wd_testBit, Nat.testBit_or]
  cases decide (j < 64) <;> simp
/-- The greater length. -/
def mlen (x y : List Int) : Nat := max x.length y.length
theorem mx_len (x y : List Int) : mx (x.length : Int) (y.length : Int) = (mlen x y : Int) := by
  unfold mx mlen
  split <;> omega
end Go.Proofs.Ytahfckadomemiaa.VecSpec
namespace Go.Proofs.Ytahfckadomemiaa.VecSpec
open Go.RowKit Go.Proofs.YtahfckadomemiaaW.PrintWords Go.Proofs.YtahfckadomemiaaW.PrintMore Go.Proofs.Ytahfckadomemiaa.XBits Go.Proofs.Ytahfckadomemiaa.VecMath Go.Proofs.Ytahfckadomemiaa.PV

/-! ### Widths -/
/-- A width as it counts; how many words hold it. -/
def wid (n : Int) : Nat := min n.toNat 1048576
def wds (n : Int) : Nat := (wid n + 63) / 64
theorem num_lt (w k : Nat) (h : k < (w + 63) / 64) : 64 * k < w := by omega
theorem num_le (w : Nat) (h : w ≤ 1048576) : (w + 63) / 64 ≤ 16384 := by omega
theorem num_ge (w : Nat) : w ≤ 64 * ((w + 63) / 64) := by omega
theorem wid_le (n : Int) : wid n ≤ 1048576 := Nat.min_le_right _ _
theorem wds_le (n : Int) : wds n ≤ 16384 := num_le (wid n) (wid_le n)
theorem wid_wds (n : Int) : wid n ≤ 64 * wds n := num_ge (wid n)
theorem width_is (n : Int) : vec_width.f n = some (wid n : Int) := by
  unfold vec_width.f mn mx wid
  congr 1
  split <;> split <;> omega
theorem Words_is (n : Int) : vec_Words.f n = some (wds n : Int) := by
  have := wid_le n
  unfold vec_Words.f
  rw [width_is]
  simp only [Option.bind_some]
  congr 1
  unfold wds
  rw [wrap64_id (n := (wid n : Int) + 64) (by omega) (by omega), wrap64_id (n := (wid n : Int) + 64 - 1) (by omega) (by omega), show (wid n : Int) + 64 - 1 = ((wid n + 63 : Nat) : Int) by omega, Int.tdiv_eq_ediv_of_nonneg (by omega), wrap64_id (by omega) (by omega)]
  omega
theorem wd_ones (w k : Nat) : wd (2 ^ w - 1) k = 2 ^ (min 64 (w - 64 * k)) - 1 := by
  apply Nat.eq_of_testBit_eq
  intro j
  rw [wd_testBit, Nat.testBit_two_pow_sub_one, Nat.testBit_two_pow_sub_one]
  by_cases hj : j < 64
  · by_cases h : 64 * k + j < w
    · have : j < min 64 (w - 64 * k) := by omega
      simp [hj, h, this]
    · have : ¬ j < min 64 (w - 64 * k) := by omega
      simp [h, this]
  · have : ¬ j < min 64 (w - 64 * k) := by omega
    simp [hj, this]
theorem wrap_low (c : Nat) (hc64 : c < 64) : IntKind.u64.wrap (((2 ^ c : Nat) : Int) - 1) = ((2 ^ c - 1 : Nat) : Int) := by
  have hp : 0 < 2 ^ c := Nat.two_pow_pos _
  have hlt : 2 ^ c < 2 ^ 64 := Nat.pow_lt_pow_right (by decide) hc64
  generalize 2 ^ c = P at *
  rw [wraps_u64 _ (by omega) (by omega)]
  omega
theorem wrap_count (c : Nat) (hc64 : c < 64) : IntKind.u64.wrap (c : Int) = (c : Int) := by
  rw [wraps_u64 _ (by omega) (by omega)]
theorem mask_at (w k : Nat) (h3 : 64 * k < w) (t : Int) (ht : t = (w : Int) - 64 * (k : Int)) :
    (if t ≥ 64 then some (18446744073709551615 : Int) else if 0 ≤ IntKind.u64.wrap t then some (IntKind.u64.wrap (shl .u64 1 (IntKind.u64.wrap t) - 1)) else none) = some (wd (2 ^ w - 1) k : Int) := by
  rw [wd_ones]
  by_cases h : t ≥ 64
  · have e64 : ((2 ^ 64 - 1 : Nat) : Int) = 18446744073709551615 := by decide
    rw [if_pos h, Nat.min_eq_left (by omega), e64]
  · obtain ⟨c, hc⟩ : ∃ c : Nat, t = (c : Int) := ⟨w - 64 * k, by omega⟩
    have hc64 : c < 64 := by omega
    have hcw : w - 64 * k = c := by omega
    have h0 : (0 : Int) ≤ (c : Int) := Int.natCast_nonneg _
    rw [if_neg h, hcw, Nat.min_eq_right (by omega), hc, wrap_count c hc64, if_pos h0, shl_one hc64, wrap_low c hc64]
theorem mask_is (n : Int) (k : Nat) (hk : k < wds n) : vec_mask.f n (k : Int) = some (wd (2 ^ wid n - 1) k : Int) := by
  have h1 := wid_le n
  have h3 : 64 * k < wid n := num_lt (wid n) k hk
  clear hk
  unfold vec_mask.f
  rw [width_is, Option.bind_some]
  generalize wid n = w at *
  rw [wrap64_id (n := 64 * (k : Int)) (by omega) (by omega)]
  exact mask_at w k h3 _ (wrap64_id (by omega) (by omega))
end Go.Proofs.Ytahfckadomemiaa.VecSpec
namespace Go.Proofs.Ytahfckadomemiaa.VecSpec
open Go.RowKit Go.Proofs.YtahfckadomemiaaW.PrintWords Go.Proofs.YtahfckadomemiaaW.PrintMore Go.Proofs.Ytahfckadomemiaa.XBits Go.Proofs.Ytahfckadomemiaa.VecMath Go.Proofs.Ytahfckadomemiaa.PV

theorem Fit_is (x : List Int) (n : Int) (hx : OK x) : Ev (fun k => vec_Fit.f k x n) (lay (val x % 2 ^ wid n) (wds n)) := by
  have h2 := wds_le n
  unfold vec_Fit.f
  rw [Words_is]
  have h0 : (0 : Int) ≤ (wds n : Int) := Int.natCast_nonneg _
  have h1 : wds n ≤ 35184372088832 := by omega
  simp only [Option.bind_some, Int.toNat_natCast, if_pos h0, if_pos h1, List.length_replicate]
  refine fillE (fun k z (_ : Unit) i => vec_Fit.l0 k x n z (wds n : Int) i) (wds n) (fun _ => ()) (fun i => (wd (val x % 2 ^ wid n) i : Int)) _ ?_ ?_ _ (by simp)
  · intro z i hi hz h
    refine Ev.step (fun k => ?_) h
    simp only [vec_Fit.l0]
    rw [if_pos (by omega), at_is x hx, mask_is n i hi]
    simp only [Option.bind_some]
    rw [if_pos (by omega), if_pos (by omega), wrap64_id (by omega) (by omega), band (wd_lt _ _) (wd_lt _ _), Int.toNat_natCast, ← wd_and, Nat.and_two_pow_sub_one_eq_mod]
  · refine Ev.step (fun k => ?_) (Ev.now _)
    simp only [vec_Fit.l0]
    rw [if_neg (by omega)]
    rfl
end Go.Proofs.Ytahfckadomemiaa.VecSpec
namespace Go.Proofs.Ytahfckadomemiaa.VecSpec
open Go.RowKit Go.Proofs.YtahfckadomemiaaW.PrintWords Go.Proofs.YtahfckadomemiaaW.PrintMore Go.Proofs.Ytahfckadomemiaa.XBits Go.Proofs.Ytahfckadomemiaa.VecMath Go.Proofs.Ytahfckadomemiaa.PV

theorem cnt_words (N : Nat) : ∀ i, cnt N (64 * (i + 1)) = cnt N (64 * i) + cnt (wd N i) 64 := by
  intro i
  rw [show 64 * (i + 1) = 64 * i + 64 by omega, cnt_add]
  congr 1
  apply cnt_congr
  intro j hj
  rw [wd_testBit, decide_eq_true hj, Bool.true_and, Nat.testBit_div_two_pow, Nat.add_comm]
theorem sum_is (N n : Nat) (hn : n ≤ 16384) : Ev (fun k => vec_Count.l0 k 0 (lay N n) (n : Int) 0) (cnt N (64 * n) : Int) := by
  have key : ∀ d i, i + d = n → Ev (fun k => vec_Count.l0 k (cnt N (64 * i) : Int) (lay N n) (n : Int) (i : Int)) (cnt N (64 * n) : Int) := by
    intro d
    induction d with
    | zero =>
      intro i hi
      obtain rfl : i = n := by omega
      have : ¬ ((i : Int) < (i : Int)) := by omega
      refine Ev.step (fun k => ?_) (Ev.now _)
      simp only [vec_Count.l0]
      rw [if_neg this]
    | succ d ih =>
      intro i hi
      have h1 : (i : Int) < (n : Int) := by omega
      have h0 : (0 : Int) ≤ (i : Int) := Int.natCast_nonneg _
      have hl : (i : Int) < ((lay N n).length : Int) := by rw [lay_length]; exact h1
      have hr : rd (lay N n) (i : Int) = (wd N i : Int) := by
        unfold rd
        rw [Int.toNat_natCast, lay_getD _ _ _ (by omega)]
      have c1 := cnt_le N (64 * i)
      have c2 := cnt_le (wd N i) 64
      refine Ev.step (fun k => ?_) (ih (i + 1) (by omega))
      simp only [vec_Count.l0]
      rw [if_pos h1, if_pos h0, if_pos hl, hr, VecPopIs.pop_is _ (wd_lt _ _), Option.bind_some, wrap64_id (n := (i : Int) + 1) (by omega) (by omega), wrap64_id (by omega) (by omega), cnt_words]
      rfl
  exact key n 0 (by omega)
theorem Count_is (x : List Int) (n : Int) (hx : OK x) : Ev (fun k => vec_Count.f k x n) (cnt (val x) (wid n) : Int) := by
  unfold vec_Count.f
  refine Ev.bind (Fit_is x n hx) ?_
  have h1 := wds_le n
  have h2 := sum_is (val x % 2 ^ wid n) (wds n) h1
  rw [lay_length]
  have e : cnt (val x % 2 ^ wid n) (64 * wds n) = cnt (val x) (wid n) := by
    have h3 := wid_wds n
    generalize wid n = w at *
    obtain ⟨d, hd⟩ : ∃ d, 64 * wds n = w + d := ⟨64 * wds n - w, by omega⟩
    rw [hd, cnt_more]
    · apply cnt_congr
      intro i hi
      rw [Nat.testBit_mod_two_pow, decide_eq_true hi, Bool.true_and]
    · intro i hi _
      rw [Nat.testBit_mod_two_pow, decide_eq_false (by omega), Bool.false_and]
  rw [e] at h2
  exact h2
end Go.Proofs.Ytahfckadomemiaa.VecSpec
namespace Go.Proofs.Ytahfckadomemiaa.VecSpec
open Go.RowKit Go.Proofs.YtahfckadomemiaaW.PrintWords Go.Proofs.YtahfckadomemiaaW.PrintMore Go.Proofs.Ytahfckadomemiaa.XBits Go.Proofs.Ytahfckadomemiaa.VecMath Go.Proofs.Ytahfckadomemiaa.PV

theorem add_s (a b c : Nat) : add64s (a : Int) (b : Int) (c : Int) = (((a + b + c) % 2 ^ 64 : Nat) : Int) := by
  unfold add64s
  simp only [Int.toNat_natCast]
theorem add_c (a b c : Nat) : add64c (a : Int) (b : Int) (c : Int) = (((a + b + c) / 2 ^ 64 : Nat) : Int) := by
  unfold add64c
  simp only [Int.toNat_natCast]
theorem Add_is (x y : List Int) (hx : OK x) (hy : OK y) (hl : mlen x y ≤ 35184372088832) : Ev (fun k => vec_Add.f k x y) (lay (val x + val y) (mlen x y)) := by
  unfold vec_Add.f
  rw [mx_len]
  have h0 : (0 : Int) ≤ (mlen x y : Int) := Int.natCast_nonneg _
  simp only [Int.toNat_natCast, Option.bind_some, if_pos h0, if_pos hl, List.length_replicate]
  have h1 : Ev (fun k => vec_Add.l0 k x y (List.replicate (mlen x y) 0) ((car (val x) (val y) (2 ^ (64 * 0)) : Nat) : Int) (mlen x y : Int) 0) (lay (val x + val y) (mlen x y)) → Ev (fun k => vec_Add.l0 k x y (List.replicate (mlen x y) 0) 0 (mlen x y : Int) 0) (lay (val x + val y) (mlen x y)) := by
    rw [Nat.mul_zero, car_zero]
    exact id
  refine h1 (fillE (fun k z s i => vec_Add.l0 k x y z s (mlen x y : Int) i) (mlen x y) (fun i => (car (val x) (val y) (2 ^ (64 * i)) : Int)) (fun i => (wd (val x + val y) i : Int)) _ ?_ ?_ _ (by simp))
  · intro z i hi hz h
    refine Ev.step (fun k => ?_) h
    have hc := car_le (val x) (val y) (Nat.two_pow_pos (64 * i))
    simp only [vec_Add.l0]
    rw [if_pos (by omega), at_is x hx, at_is y hy]
    simp only [Option.bind_some]
    rw [if_pos (by omega), if_pos (by omega), if_pos (by omega), wrap64_id (by omega) (by omega), add_s, add_c, Int.toNat_natCast, ← wd_add, ← car_next]
  · refine Ev.step (fun k => ?_) (Ev.now _)
    simp only [vec_Add.l0]
    rw [if_neg (by omega)]
    rfl
end Go.Proofs.Ytahfckadomemiaa.VecSpec
namespace Go.Proofs.Ytahfckadomemiaa.VecSpec
open Go.RowKit Go.Proofs.YtahfckadomemiaaW.PrintWords Go.Proofs.YtahfckadomemiaaW.PrintMore Go.Proofs.Ytahfckadomemiaa.XBits Go.Proofs.Ytahfckadomemiaa.VecMath Go.Proofs.Ytahfckadomemiaa.PV

theorem And_is (x y : List Int) (hx : OK x) (hy : OK y) (hl : mlen x y ≤ 35184372088832) : Ev (fun k => vec_And.f k x y) (lay (val x &&& val y) (mlen x y)) := by
  unfold vec_And.f
  rw [mx_len]
  have h0 : (0 : Int) ≤ (mlen x y : Int) := Int.natCast_nonneg _
  simp only [Int.toNat_natCast, Option.bind_some, if_pos h0, if_pos hl, List.length_replicate]
  refine fillE (fun k z (_ : Unit) i => vec_And.l0 k x y z (mlen x y : Int) i) (mlen x y) (fun _ => ()) (fun i => (wd (val x &&& val y) i : Int)) _ ?_ ?_ _ (by simp)
  · intro z i hi hz h
    refine Ev.step (fun k => ?_) h
    simp only [vec_And.l0]
    rw [if_pos (by omega), at_is x hx, at_is y hy]
    simp only [Option.bind_some]
    rw [if_pos (by omega), if_pos (by omega), wrap64_id (by omega) (by omega), band (wd_lt _ _) (wd_lt _ _), Int.toNat_natCast, ← wd_and]
  · refine Ev.step (fun k => ?_) (Ev.now _)
    simp only [vec_And.l0]
    rw [if_neg (by omega)]
    rfl
end Go.Proofs.Ytahfckadomemiaa.VecSpec
namespace Go.Proofs.Ytahfckadomemiaa.VecSpec
open Go.RowKit Go.Proofs.YtahfckadomemiaaW.PrintWords Go.Proofs.YtahfckadomemiaaW.PrintMore Go.Proofs.Ytahfckadomemiaa.XBits Go.Proofs.Ytahfckadomemiaa.VecMath Go.Proofs.Ytahfckadomemiaa.PV

theorem Or_is (x y : List Int) (hx : OK x) (hy : OK y) (hl : mlen x y ≤ 35184372088832) : Ev (fun k => vec_Or.f k x y) (lay (val x ||| val y) (mlen x y)) := by
  unfold vec_Or.f
  rw [mx_len]
  have h0 : (0 : Int) ≤ (mlen x y : Int) := Int.natCast_nonneg _
  simp only [Int.toNat_natCast, Option.bind_some, if_pos h0, if_pos hl, List.length_replicate]
  refine fillE (fun k z (_ : Unit) i => vec_Or.l0 k x y z (mlen x y : Int) i) (mlen x y) (fun _ => ()) (fun i => (wd (val x ||| val y) i : Int)) _ ?_ ?_ _ (by simp)
  · intro z i hi hz h
    refine Ev.step (fun k => ?_) h
    simp only [vec_Or.l0]
    rw [if_pos (by omega), at_is x hx, at_is y hy]
    simp only [Option.bind_some]
    rw [if_pos (by omega), if_pos (by omega), wrap64_id (by omega) (by omega), bor (wd_lt _ _) (wd_lt _ _), Int.toNat_natCast, ← wd_or]
  · refine Ev.step (fun k => ?_) (Ev.now _)
    simp only [vec_Or.l0]
    rw [if_neg (by omega)]
    rfl

end Go.Proofs.Ytahfckadomemiaa.VecSpec
namespace Go.Proofs.Ytahfckadomemiaa.VecSpec
open Go.RowKit Go.Proofs.YtahfckadomemiaaW.PrintWords Go.Proofs.YtahfckadomemiaaW.PrintMore Go.Proofs.Ytahfckadomemiaa.XBits Go.Proofs.Ytahfckadomemiaa.VecMath Go.Proofs.Ytahfckadomemiaa.PV

/-- The other bits below a width. -/
def inv (X w : Nat) : Nat := 2 ^ w - (X % 2 ^ w + 1)
theorem inv_testBit (X w i : Nat) : (inv X w).testBit i = (decide (i < w) && !X.testBit i) := by
  unfold inv
  rw [Nat.testBit_two_pow_sub_succ (Nat.mod_lt _ (Nat.two_pow_pos _)), Nat.testBit_mod_two_pow]
  by_cases h : i < w <;> simp [h]
theorem Not_is (x : List Int) (n : Int) (hx : OK x) : Ev (fun k => vec_Not.f k x n) (lay (inv (val x) (wid n)) (wds n)) := by
  have h2 := wds_le n
  unfold vec_Not.f
  rw [Words_is]
  have h0 : (0 : Int) ≤ (wds n : Int) := Int.natCast_nonneg _
  have h1 : wds n ≤ 35184372088832 := by omega
  simp only [Option.bind_some, Int.toNat_natCast, if_pos h0, if_pos h1, List.length_replicate]
  refine fillE (fun k z (_ : Unit) i => vec_Not.l0 k x n z (wds n : Int) i) (wds n) (fun _ => ()) (fun i => (wd (inv (val x) (wid n)) i : Int)) _ ?_ ?_ _ (by simp)
  · intro z i hi hz h
    refine Ev.step (fun k => ?_) h
    have hw := wd_lt (val x) i
    simp only [vec_Not.l0]
    rw [if_pos (by omega), at_is x hx, mask_is n i hi]
    simp only [Option.bind_some]
    rw [if_pos (by omega), if_pos (by omega), wrap64_id (by omega) (by omega), bnot hw, band (by omega) (wd_lt _ _), Int.toNat_natCast]
    congr 3
    apply Nat.eq_of_testBit_eq
    intro j
    rw [Nat.testBit_and, show 2 ^ 64 - 1 - wd (val x) i = 2 ^ 64 - (wd (val x) i + 1) by omega, Nat.testBit_two_pow_sub_succ hw, wd_testBit, wd_testBit, wd_testBit, inv_testBit, Nat.testBit_two_pow_sub_one]
    by_cases hj : j < 64 <;> by_cases hi2 : 64 * i + j < wid n <;> simp [hj, hi2]
  · refine Ev.step (fun k => ?_) (Ev.now _)
    simp only [vec_Not.l0]
    rw [if_neg (by omega)]
    rfl
end Go.Proofs.Ytahfckadomemiaa.VecSpec
namespace Go.Proofs.Ytahfckadomemiaa.VecSpec
open Go.RowKit Go.Proofs.YtahfckadomemiaaW.PrintWords Go.Proofs.YtahfckadomemiaaW.PrintMore Go.Proofs.Ytahfckadomemiaa.XBits Go.Proofs.Ytahfckadomemiaa.VecMath Go.Proofs.Ytahfckadomemiaa.PV

theorem sub_s (a b c : Nat) : sub64s (a : Int) (b : Int) (c : Int) = (((a + 2 ^ 64 - b - c) % 2 ^ 64 : Nat) : Int) := by
  unfold sub64s
  simp only [Int.toNat_natCast]
theorem sub_c (a b c : Nat) : sub64c (a : Int) (b : Int) (c : Int) = ((if a < b + c then 1 else 0 : Nat) : Int) := by
  unfold sub64c
  simp only [Int.toNat_natCast]
  split <;> rfl

end Go.Proofs.Ytahfckadomemiaa.VecSpec
namespace Go.Proofs.Ytahfckadomemiaa.VecSpec
open Go.RowKit Go.Proofs.YtahfckadomemiaaW.PrintWords Go.Proofs.YtahfckadomemiaaW.PrintMore Go.Proofs.Ytahfckadomemiaa.XBits Go.Proofs.Ytahfckadomemiaa.VecMath Go.Proofs.Ytahfckadomemiaa.PV

theorem OK_nil : OK [] := fun x h => by simp at h
theorem Ones_is (n : Int) : Ev (fun k => vec_Ones.f k n) (lay (2 ^ wid n - 1) (wds n)) := by
  have h := Not_is [] n OK_nil
  have e : inv (val []) (wid n) = 2 ^ wid n - 1 := by simp [inv, val]
  rw [e] at h
  unfold vec_Ones.f
  exact Ev.bind h (Ev.now _)
end Go.Proofs.Ytahfckadomemiaa.VecSpec
