import Derived.Test.YtahfckadomemiaaPVx2
import Derived.Test.YtahfckadomemiaaVecSpecs
import Derived.Test.YtahfckadomemiaaRowN
namespace Go.Proofs.Ytahfckadomemiaa.RowSpec
open Go.RowKit Go.Proofs.YtahfckadomemiaaW.PrintWords Go.Proofs.YtahfckadomemiaaW.PrintMore Go.Proofs.Ytahfckadomemiaa.XBits Go.Proofs.Ytahfckadomemiaa.VecMath Go.Proofs.Ytahfckadomemiaa.VecSpec Go.Proofs.Ytahfckadomemiaa.PV

theorem croch_is (v u : List Int) (m : Int) (hv : OK v) (hu : OK u) : Ev (fun k => croch_Row.f k v u m) (lay (rowN (val v) (val u) (wid m)) (wds m)) := by
  have hle := wds_le m
  have hw := wid_wds m
  unfold croch_Row.f
  have hm : ∀ X : Nat, X % 2 ^ wid m % 2 ^ (64 * wds m) = X % 2 ^ wid m := fun X => Nat.mod_eq_of_lt (Nat.lt_of_lt_of_le (Nat.mod_lt _ (Nat.two_pow_pos _)) (Nat.pow_le_pow_right (by decide) hw))
  refine Ev.bind (VecSpec.Fit_is v m hv) ?_
  refine Ev.bind (VecSpec.Fit_is u m hu) ?_
  have h1 := VecSpec.And_is (lay (val v % 2 ^ wid m) (wds m)) (lay (val u % 2 ^ wid m) (wds m)) (lay_OK _ _) (lay_OK _ _) (by simp only [mlen, lay_length, Nat.max_self]; omega)
  simp only [mlen, lay_length, Nat.max_self, val_lay, hm] at h1
  refine Ev.bind h1 ?_
  have h2 := VecSpec.Add_is (lay (val v % 2 ^ wid m) (wds m)) (lay (val v % 2 ^ wid m &&& val u % 2 ^ wid m) (wds m)) (lay_OK _ _) (lay_OK _ _) (by simp only [mlen, lay_length, Nat.max_self]; omega)
  have hx : (val v % 2 ^ wid m &&& val u % 2 ^ wid m) % 2 ^ (64 * wds m) = (val v % 2 ^ wid m &&& val u % 2 ^ wid m) := Nat.mod_eq_of_lt (Nat.lt_of_le_of_lt Nat.and_le_left (Nat.lt_of_lt_of_le (Nat.mod_lt _ (Nat.two_pow_pos _)) (Nat.pow_le_pow_right (by decide) hw)))
  simp only [mlen, lay_length, Nat.max_self, val_lay, hm, hx] at h2
  refine Ev.bind h2 ?_
  have h3 := VecSpec.Not_is (lay (val u % 2 ^ wid m) (wds m)) m (lay_OK _ _)
  simp only [val_lay, hm] at h3
  refine Ev.bind h3 ?_
  have hI : inv (val u % 2 ^ wid m) (wid m) % 2 ^ (64 * wds m) = inv (val u % 2 ^ wid m) (wid m) := Nat.mod_eq_of_lt (by
    have : inv (val u % 2 ^ wid m) (wid m) < 2 ^ wid m := by
      have := Nat.two_pow_pos (wid m)
      unfold inv
      omega
    exact Nat.lt_of_lt_of_le this (Nat.pow_le_pow_right (by decide) hw))
  have h4 := VecSpec.And_is (lay (val v % 2 ^ wid m) (wds m)) (lay (inv (val u % 2 ^ wid m) (wid m)) (wds m)) (lay_OK _ _) (lay_OK _ _) (by simp only [mlen, lay_length, Nat.max_self]; omega)
  simp only [mlen, lay_length, Nat.max_self, val_lay, hm, hI] at h4
  refine Ev.bind h4 ?_
  have h5 := VecSpec.Or_is (lay (val v % 2 ^ wid m + (val v % 2 ^ wid m &&& val u % 2 ^ wid m)) (wds m)) (lay (val v % 2 ^ wid m &&& inv (val u % 2 ^ wid m) (wid m)) (wds m)) (lay_OK _ _) (lay_OK _ _) (by simp only [mlen, lay_length, Nat.max_self]; omega)
  have hy : (val v % 2 ^ wid m &&& inv (val u % 2 ^ wid m) (wid m)) % 2 ^ (64 * wds m) = (val v % 2 ^ wid m &&& inv (val u % 2 ^ wid m) (wid m)) := Nat.mod_eq_of_lt (Nat.lt_of_le_of_lt Nat.and_le_left (Nat.lt_of_lt_of_le (Nat.mod_lt _ (Nat.two_pow_pos _)) (Nat.pow_le_pow_right (by decide) hw)))
  simp only [mlen, lay_length, Nat.max_self, val_lay, hy] at h5
  refine Ev.bind h5 ?_
  refine Ev.bind (VecSpec.Fit_is _ m (lay_OK _ _)) ?_
  rw [val_lay, Nat.mod_mod_of_dvd _ (Nat.pow_dvd_pow 2 hw), num_croch _ _ _ _ hw _ (fun i => inv_testBit _ _ i)]
  exact Ev.now _
end Go.Proofs.Ytahfckadomemiaa.RowSpec
