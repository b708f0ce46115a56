import Derived.Test.YtahfckadomemiaaPVx4
import Derived.Test.YtahfckadomemiaaPVx5
import Derived.Test.YtahfckadomemiaaPVx7
import Derived.Test.YtahfckadomemiaaVecRef
import Derived.Test.YtahfckadomemiaaVecSpecWid
import Derived.Test.YtahfckadomemiaaVecSpecNot
namespace Go.Proofs.Ytahfckadomemiaa.VecRef2
open Go.RowKit Go.Proofs.YtahfckadomemiaaW.PrintWords Go.Proofs.YtahfckadomemiaaW.PrintMore Go.Proofs.Ytahfckadomemiaa.VecMath Go.Proofs.Ytahfckadomemiaa.VecRef Go.Proofs.Ytahfckadomemiaa.PV
open VecSpec (wid wds wid_le wds_le wid_wds inv inv_testBit)

/-! What the reference of chapter 5 computes: widths. -/
theorem Width_is (n : Int) : tattingref5_Width.f n = some (wid n : Int) := by
  unfold tattingref5_Width.f wid
  split
  · congr 1
    omega
  · split
    · congr 1
      omega
    · congr 1
      omega
theorem Words_is (n : Int) : tattingref5_Words.f n = some (wds n : Int) := by
  have h := wid_le n
  unfold tattingref5_Words.f
  rw [Width_is, Option.bind_some]
  show _ = some (((wid n + 63) / 64 : Nat) : Int)
  generalize wid n = w at *
  rw [wrap64_id (n := (w : Int) + 63) (by omega) (by omega), Int.tdiv_eq_ediv_of_nonneg (by omega), wrap64_id (by omega) (by omega)]
  congr 1
theorem bits_done (N w : Nat) : ((List.range w).map fun i => N.testBit i) = bitsOf N w := rfl
theorem laid_wid (N : Nat) (n : Int) : Ev (fun k => tattingref5_Laid.f k (bitsOf N (wid n)) (wds n : Int)) (lay (N % 2 ^ wid n) (wds n)) := by
  have h1 := wid_le n
  have h2 := wds_le n
  exact Laid_is N (wid n) (wds n) (Nat.lt_of_le_of_lt h1 (by decide)) (Nat.le_trans h2 (by decide))
theorem Fit_is (x : List Int) (n : Int) (hx : OK x) : Ev (fun k => tattingref5_Fit.f k x n) (lay (val x % 2 ^ wid n) (wds n)) := by
  have hL := laid_wid (val x) n
  have hW := Words_is n
  have hw := wid_le n
  have h0 : (0 : Int) ≤ (wid n : Int) := Int.natCast_nonneg _
  have h1 : wid n ≤ 281474976710656 := Nat.le_trans hw (by decide)
  unfold tattingref5_Fit.f
  rw [Width_is]
  simp only [Option.bind_some, Int.toNat_natCast, if_pos h0, if_pos h1]
  generalize wid n = w at *
  exact fillE (fun k z (_ : Unit) i => tattingref5_Fit.l0 k x n z i) w (fun _ => ()) (fun i => (val x).testBit i) (lay (val x % 2 ^ w) (wds n)) (fun z i hi hz h => by
    have hlt : (i : Int) < (z.length : Int) := by omega
    have hi0 : (0 : Int) ≤ (i : Int) := Int.natCast_nonneg _
    refine Ev.step (fun k => ?_) h
    simp only [tattingref5_Fit.l0]
    rw [if_pos hlt, Get_nat x hx i (by omega), Option.bind_some, if_pos hi0, next_ i _ hi (by omega), Int.toNat_natCast]) (by
    refine Ev.step (f := fun k => (tattingref5_Laid.f k (bitsOf (val x) w) (wds n : Int)).bind fun t => some t) (fun k => ?_) (Ev.bind hL (Ev.now _))
    have hlt : ¬ ((w : Int) < ((List.map (fun i => (val x).testBit i) (List.range w)).length : Int)) := by simp
    simp only [tattingref5_Fit.l0]
    rw [if_neg hlt, hW, Option.bind_some]
    rfl) (List.replicate w false) (by simp)
theorem Not_is (x : List Int) (n : Int) (hx : OK x) : Ev (fun k => tattingref5_Not.f k x n) (lay (inv (val x) (wid n)) (wds n)) := by
  have hL := laid_wid (inv (val x) (wid n)) n
  have hW := Words_is n
  have hw := wid_le n
  have h0 : (0 : Int) ≤ (wid n : Int) := Int.natCast_nonneg _
  have h1 : wid n ≤ 281474976710656 := Nat.le_trans hw (by decide)
  have em : inv (val x) (wid n) % 2 ^ wid n = inv (val x) (wid n) := Nat.mod_eq_of_lt (Nat.sub_lt (Nat.two_pow_pos _) (Nat.succ_pos _))
  rw [em] at hL
  unfold tattingref5_Not.f
  rw [Width_is]
  simp only [Option.bind_some, Int.toNat_natCast, if_pos h0, if_pos h1]
  generalize wid n = w at *
  exact fillE (fun k z (_ : Unit) i => tattingref5_Not.l0 k x n z i) w (fun _ => ()) (fun i => (inv (val x) w).testBit i) (lay (inv (val x) w) (wds n)) (fun z i hi hz h => by
    have hlt : (i : Int) < (z.length : Int) := by omega
    have hi0 : (0 : Int) ≤ (i : Int) := Int.natCast_nonneg _
    have hb : (inv (val x) w).testBit i = !(val x).testBit i := by rw [inv_testBit, decide_eq_true hi, Bool.true_and]
    refine Ev.step (fun k => ?_) h
    simp only [tattingref5_Not.l0]
    rw [if_pos hlt, Get_nat x hx i (by omega), Option.bind_some, if_pos hi0, next_ i _ hi (by omega), hb, Int.toNat_natCast]) (by
    refine Ev.step (f := fun k => (tattingref5_Laid.f k (bitsOf (inv (val x) w) w) (wds n : Int)).bind fun t => some t) (fun k => ?_) (Ev.bind hL (Ev.now _))
    have hlt : ¬ ((w : Int) < ((List.map (fun i => (inv (val x) w).testBit i) (List.range w)).length : Int)) := by simp
    simp only [tattingref5_Not.l0]
    rw [if_neg hlt, hW, Option.bind_some]
    rfl) (List.replicate w false) (by simp)
theorem Count_is (x : List Int) (n : Int) (hx : OK x) : Ev (fun k => tattingref5_Count.f k x n) (cnt (val x) (wid n) : Int) := by
  have hw := wid_le n
  have hW := Width_is n
  unfold tattingref5_Count.f
  generalize wid n = w at *
  have key : ∀ d i, i + d = w → Ev (fun k => tattingref5_Count.l0 k x n (cnt (val x) i : Int) (i : Int)) (cnt (val x) w : Int) := by
    intro d
    induction d with
    | zero =>
      intro i hi
      obtain rfl : i = w := by omega
      have : ¬ ((i : Int) < (i : Int)) := by omega
      refine Ev.step (fun k => ?_) (Ev.now _)
      simp only [tattingref5_Count.l0]
      rw [hW, Option.bind_some, if_neg this]
    | succ d ih =>
      intro i hi
      have h1 : (i : Int) < (w : Int) := by omega
      have c1 := cnt_le (val x) i
      refine Ev.step (fun k => ?_) (ih (i + 1) (by omega))
      simp only [tattingref5_Count.l0]
      rw [hW, Option.bind_some, if_pos h1, Get_nat x hx i (by omega), Option.bind_some, next_ i _ (show i < w by omega) (by omega)]
      simp only [cnt]
      cases (val x).testBit i with
      | true =>
        rw [if_pos rfl, wrap64_id (by omega) (by omega)]
        rfl
      | false =>
        rw [if_neg (by decide)]
        rfl
  exact key w 0 (by omega)
end Go.Proofs.Ytahfckadomemiaa.VecRef2
