import Derived.Test.YtnnihdhjphmohaaPVx1
import Derived.Test.YtnnihdhjphmohaaVecMath
import Derived.Test.YtnnihdhjphmohaaVecSpecAt
namespace Go.Proofs.Ytnnihdhjphmohaa.VecSpec
open Go.RowKit Go.Proofs.YtnnihdhjphmohaaW.PrintWords Go.Proofs.YtnnihdhjphmohaaW.PrintMore Go.Proofs.Ytnnihdhjphmohaa.XBits Go.Proofs.Ytnnihdhjphmohaa.VecMath Go.Proofs.Ytnnihdhjphmohaa.PV

theorem sub_s (a b c : Nat) : sub64s (a : Int) (b : Int) (c : Int) = (((a + 2 ^ 64 - b - c) % 2 ^ 64 : Nat) : Int) := by
  unfold sub64s
  simp only [Int.toNat_natCast]
theorem sub_c (a b c : Nat) : sub64c (a : Int) (b : Int) (c : Int) = ((if a < b + c then 1 else 0 : Nat) : Int) := by
  unfold sub64c
  simp only [Int.toNat_natCast]
  split <;> rfl

theorem Sub_is (x y : List Int) (hx : OK x) (hy : OK y) (hl : mlen x y ≤ 35184372088832) : Ev (fun k => vec_Sub.f k x y) (lay (val x + 2 ^ (64 * mlen x y) - val y) (mlen x y)) := by
  have hyl : val y < 2 ^ (64 * mlen x y) := Nat.lt_of_lt_of_le (val_lt hy) (Nat.pow_le_pow_right (by decide) (by unfold mlen; omega))
  unfold vec_Sub.f
  rw [mx_len]
  have h0 : (0 : Int) ≤ (mlen x y : Int) := Int.natCast_nonneg _
  simp only [Int.toNat_natCast, Option.bind_some, if_pos h0, if_pos hl, List.length_replicate]
  have h1 : Ev (fun k => vec_Sub.l0 k x y (List.replicate (mlen x y) 0) ((bow (val x) (val y) (2 ^ (64 * 0)) : Nat) : Int) (mlen x y : Int) 0) (lay (val x + 2 ^ (64 * mlen x y) - val y) (mlen x y)) → Ev (fun k => vec_Sub.l0 k x y (List.replicate (mlen x y) 0) 0 (mlen x y : Int) 0) (lay (val x + 2 ^ (64 * mlen x y) - val y) (mlen x y)) := by
    rw [Nat.mul_zero, bow_zero]
    exact id
  refine h1 (fillE (fun k z s i => vec_Sub.l0 k x y z s (mlen x y : Int) i) (mlen x y) (fun i => (bow (val x) (val y) (2 ^ (64 * i)) : Int)) (fun i => (wd (val x + 2 ^ (64 * mlen x y) - val y) i : Int)) _ ?_ ?_ _ (by simp))
  · intro z i hi hz h
    refine Ev.step (fun k => ?_) h
    have hc := bow_le (val x) (val y) (2 ^ (64 * i))
    simp only [vec_Sub.l0]
    rw [if_pos (by omega), at_is x hx, at_is y hy]
    simp only [Option.bind_some]
    rw [if_pos (by omega), if_pos (by omega), if_pos (by omega), wrap64_id (by omega) (by omega), sub_s, sub_c, Int.toNat_natCast, ← wd_sub _ _ _ _ hi hyl, ← bow_next]
  · refine Ev.step (fun k => ?_) (Ev.now _)
    simp only [vec_Sub.l0]
    rw [if_neg (by omega)]
    rfl
end Go.Proofs.Ytnnihdhjphmohaa.VecSpec
