import Derived.Test.YtahfckadomemiaaPVx2
import Derived.Test.YtahfckadomemiaaVecPop
namespace Go.Proofs.Ytahfckadomemiaa.VecPopIs
open Go.RowKit Go.Proofs.YtahfckadomemiaaW.PrintWords Go.Proofs.YtahfckadomemiaaW.PrintMore Go.Proofs.Ytahfckadomemiaa.VecMath Go.Proofs.Ytahfckadomemiaa.VecPop Go.Proofs.Ytahfckadomemiaa.PV
theorem wraps_i64 (n : Int) (h₀ : 0 ≤ n) (h₁ : n < 2 ^ 63) : IntKind.i64.wrap n = n := by
  rw [IntKind.wrap_i64]
  omega
theorem band7 (u : Nat) (h : u < 2 ^ 63) : Go.bits .and .i64 (u : Int) 127 = ((u % 128 : Nat) : Int) := by
  rw [show (127 : Int) = ((127 : Nat) : Int) from rfl, (bits_nat .i64 63 (by decide) wraps_i64 u 127 h (by decide)).1, Nat.and_two_pow_sub_one_eq_mod u 7]
theorem andm (a m : Nat) (ha : a < 2 ^ 64) (hm : m < 2 ^ 64) (M : Int) (hM : M = (m : Int)) : Go.bits .and .u64 (a : Int) M = ((a &&& m : Nat) : Int) := by
  rw [hM, band ha hm]
theorem sumw (a b s : Nat) (h : a + b = s) (hs : s < 2 ^ 64) : IntKind.u64.wrap ((a : Int) + (b : Int)) = (s : Int) := by
  rw [wraps_u64 _ (by omega) (by omega)]
  omega
theorem divn (a c : Nat) (C : Int) (hC : C = (c : Int)) : (a : Int) / C = ((a / c : Nat) : Int) := by
  rw [hC]
  rfl
theorem pop_is (x : Nat) (hx : x < 2 ^ 64) : bits_OnesCount64.f (x : Int) = some (cnt x 64 : Int) := by
  obtain ⟨y, z, v, p, q, u, e1, hy, e2, hz, e3, e4, e5, e6, hv, hp, hq, hu, e7⟩ := pop x hx
  have d {a c : Nat} (h : a < 2 ^ 64) : a / c < 2 ^ 64 := Nat.lt_of_le_of_lt (Nat.div_le_self _ _) h
  unfold bits_OnesCount64.f
  rw [divn x 2 2 rfl, andm (x / 2) 6148914691236517205 (d hx) (by decide) 6148914691236517205 rfl, andm x 6148914691236517205 hx (by decide) 6148914691236517205 rfl, sumw _ _ y e1 hy]
  rw [divn y 4 4 rfl, andm (y / 4) 3689348814741910323 (d hy) (by decide) 3689348814741910323 rfl, andm y 3689348814741910323 hy (by decide) 3689348814741910323 rfl, sumw _ _ z e2 (by omega)]
  rw [divn z 16 16 rfl, sumw (z / 16) z _ rfl (by omega), andm (z / 16 + z) 1085102592571150095 (by omega) (by decide) 1085102592571150095 rfl, e3]
  have swap {a b : Nat} : (a : Int) + (b : Int) = (b : Int) + (a : Int) := Int.add_comm _ _
  rw [divn v 256 256 rfl, sumw v (v / 256) p e4 (by omega)]
  rw [divn p 65536 65536 rfl, sumw p (p / 65536) q e5 (by omega)]
  rw [divn q 4294967296 4294967296 rfl, sumw q (q / 4294967296) u e6 (by omega)]
  rw [wrap64_id (by omega) (by omega), band7 u hu, e7]
end Go.Proofs.Ytahfckadomemiaa.VecPopIs
