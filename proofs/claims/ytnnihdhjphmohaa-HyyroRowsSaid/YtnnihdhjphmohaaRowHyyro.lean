import Derived.Test.YtnnihdhjphmohaaPVx2
import Derived.Test.YtnnihdhjphmohaaVecSpecs
import Derived.Test.YtnnihdhjphmohaaRowN
namespace Go.Proofs.Ytnnihdhjphmohaa.RowSpec
open Go.RowKit Go.Proofs.YtnnihdhjphmohaaW.PrintWords Go.Proofs.YtnnihdhjphmohaaW.PrintMore Go.Proofs.Ytnnihdhjphmohaa.XBits Go.Proofs.Ytnnihdhjphmohaa.VecMath Go.Proofs.Ytnnihdhjphmohaa.VecSpec Go.Proofs.Ytnnihdhjphmohaa.PV

theorem hyyro_is (v u : List Int) (m : Int) (hv : OK v) (hu : OK u) : Ev (fun k => hyyro_Row.f k v u m) (lay (rowN (val v) (val u) (wid m)) (wds m)) := by
  have hle := wds_le m
  have hw := wid_wds m
  unfold hyyro_Row.f
  have hm : ∀ X : Nat, X % 2 ^ wid m % 2 ^ (64 * wds m) = X % 2 ^ wid m := fun X => Nat.mod_eq_of_lt (Nat.lt_of_lt_of_le (Nat.mod_lt _ (Nat.two_pow_pos _)) (Nat.pow_le_pow_right (by decide) hw))
  refine Ev.bind (VecSpec.Fit_is v m hv) ?_
  refine Ev.bind (VecSpec.Fit_is u m hu) ?_
  have h1 := VecSpec.And_is (lay (val v % 2 ^ wid m) (wds m)) (lay (val u % 2 ^ wid m) (wds m)) (lay_OK _ _) (lay_OK _ _) (by simp only [mlen, lay_length, Nat.max_self]; omega)
  simp only [mlen, lay_length, Nat.max_self, val_lay, hm] at h1
  refine Ev.bind h1 ?_
  have h2 := VecSpec.Add_is (lay (val v % 2 ^ wid m) (wds m)) (lay (val v % 2 ^ wid m &&& val u % 2 ^ wid m) (wds m)) (lay_OK _ _) (lay_OK _ _) (by simp only [mlen, lay_length, Nat.max_self]; omega)
  have hx : (val v % 2 ^ wid m &&& val u % 2 ^ wid m) % 2 ^ (64 * wds m) = (val v % 2 ^ wid m &&& val u % 2 ^ wid m) := Nat.mod_eq_of_lt (Nat.lt_of_le_of_lt Nat.and_le_left (Nat.lt_of_lt_of_le (Nat.mod_lt _ (Nat.two_pow_pos _)) (Nat.pow_le_pow_right (by decide) hw)))
  simp only [mlen, lay_length, Nat.max_self, val_lay, hm, hx] at h2
  refine Ev.bind h2 ?_
  have h3 := VecSpec.Sub_is (lay (val v % 2 ^ wid m) (wds m)) (lay (val v % 2 ^ wid m &&& val u % 2 ^ wid m) (wds m)) (lay_OK _ _) (lay_OK _ _) (by simp only [mlen, lay_length, Nat.max_self]; omega)
  simp only [mlen, lay_length, Nat.max_self, val_lay, hm, hx] at h3
  refine Ev.bind h3 ?_
  have h5 := VecSpec.Or_is (lay (val v % 2 ^ wid m + (val v % 2 ^ wid m &&& val u % 2 ^ wid m)) (wds m)) (lay (val v % 2 ^ wid m + 2 ^ (64 * wds m) - (val v % 2 ^ wid m &&& val u % 2 ^ wid m)) (wds m)) (lay_OK _ _) (lay_OK _ _) (by simp only [mlen, lay_length, Nat.max_self]; omega)
  simp only [mlen, lay_length, Nat.max_self, val_lay] at h5
  refine Ev.bind h5 ?_
  refine Ev.bind (VecSpec.Fit_is _ m (lay_OK _ _)) ?_
  rw [val_lay, Nat.mod_mod_of_dvd _ (Nat.pow_dvd_pow 2 hw), num_hyyro _ _ _ _ hw]
  exact Ev.now _
end Go.Proofs.Ytnnihdhjphmohaa.RowSpec
