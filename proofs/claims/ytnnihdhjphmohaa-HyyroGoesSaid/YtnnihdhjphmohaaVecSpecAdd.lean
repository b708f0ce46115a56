import Derived.Test.YtnnihdhjphmohaaPVx1
import Derived.Test.YtnnihdhjphmohaaVecMath
import Derived.Test.YtnnihdhjphmohaaVecSpecAt
namespace Go.Proofs.Ytnnihdhjphmohaa.VecSpec
open Go.RowKit Go.Proofs.YtnnihdhjphmohaaW.PrintWords Go.Proofs.YtnnihdhjphmohaaW.PrintMore Go.Proofs.Ytnnihdhjphmohaa.XBits Go.Proofs.Ytnnihdhjphmohaa.VecMath Go.Proofs.Ytnnihdhjphmohaa.PV

theorem add_s (a b c : Nat) : add64s (a : Int) (b : Int) (c : Int) = (((a + b + c) % 2 ^ 64 : Nat) : Int) := by
  unfold add64s
  simp only [Int.toNat_natCast]
theorem add_c (a b c : Nat) : add64c (a : Int) (b : Int) (c : Int) = (((a + b + c) / 2 ^ 64 : Nat) : Int) := by
  unfold add64c
  simp only [Int.toNat_natCast]
theorem Add_is (x y : List Int) (hx : OK x) (hy : OK y) (hl : mlen x y ≤ 35184372088832) : Ev (fun k => vec_Add.f k x y) (lay (val x + val y) (mlen x y)) := by
  unfold vec_Add.f
  rw [mx_len]
  have h0 : (0 : Int) ≤ (mlen x y : Int) := Int.natCast_nonneg _
  simp only [Int.toNat_natCast, Option.bind_some, if_pos h0, if_pos hl, List.length_replicate]
  have h1 : Ev (fun k => vec_Add.l0 k x y (List.replicate (mlen x y) 0) ((car (val x) (val y) (2 ^ (64 * 0)) : Nat) : Int) (mlen x y : Int) 0) (lay (val x + val y) (mlen x y)) → Ev (fun k => vec_Add.l0 k x y (List.replicate (mlen x y) 0) 0 (mlen x y : Int) 0) (lay (val x + val y) (mlen x y)) := by
    rw [Nat.mul_zero, car_zero]
    exact id
  refine h1 (fillE (fun k z s i => vec_Add.l0 k x y z s (mlen x y : Int) i) (mlen x y) (fun i => (car (val x) (val y) (2 ^ (64 * i)) : Int)) (fun i => (wd (val x + val y) i : Int)) _ ?_ ?_ _ (by simp))
  · intro z i hi hz h
    refine Ev.step (fun k => ?_) h
    have hc := car_le (val x) (val y) (Nat.two_pow_pos (64 * i))
    simp only [vec_Add.l0]
    rw [if_pos (by omega), at_is x hx, at_is y hy]
    simp only [Option.bind_some]
    rw [if_pos (by omega), if_pos (by omega), if_pos (by omega), wrap64_id (by omega) (by omega), add_s, add_c, Int.toNat_natCast, ← wd_add, ← car_next]
  · refine Ev.step (fun k => ?_) (Ev.now _)
    simp only [vec_Add.l0]
    rw [if_neg (by omega)]
    rfl
end Go.Proofs.Ytnnihdhjphmohaa.VecSpec
