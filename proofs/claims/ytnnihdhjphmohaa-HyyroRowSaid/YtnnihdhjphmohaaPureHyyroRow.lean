/- The next row of bits is what the reference tells (HyyroRow). -/
import Derived.Test.YtnnihdhjphmohaaPVx6
import Derived.Test.YtnnihdhjphmohaaRowHyyro
import Derived.Test.YtnnihdhjphmohaaVecRef2
import Derived.Test.YtnnihdhjphmohaaAwakeM
namespace Go.Proofs.Ytnnihdhjphmohaa.Pure
open Go.RowKit Go.Proofs.Ytnnihdhjphmohaa.PV Go.Proofs.YtnnihdhjphmohaaW.PrintWords Go.Proofs.YtnnihdhjphmohaaW.PrintLast Go.Proofs.Ytnnihdhjphmohaa.VecMath VecSpec RowSpec
theorem refrow_is (v u : List Int) (m : Int) (hv : OK v) (hu : OK u) : Ev (fun k => tattingref20_Row.f k v u m) (lay (rowN (val v) (val u) (wid m)) (wds m)) := by
  have hle := wds_le m
  have hw := wid_wds m
  unfold tattingref20_Row.f
  have hm : ∀ X : Nat, X % 2 ^ wid m % 2 ^ (64 * wds m) = X % 2 ^ wid m := fun X => Nat.mod_eq_of_lt (Nat.lt_of_lt_of_le (Nat.mod_lt _ (Nat.two_pow_pos _)) (Nat.pow_le_pow_right (by decide) hw))
  refine Ev.bind (VecRef2.Fit_is v m hv) ?_
  refine Ev.bind (VecRef2.Fit_is u m hu) ?_
  have h1 := VecRef.And_is (lay (val v % 2 ^ wid m) (wds m)) (lay (val u % 2 ^ wid m) (wds m)) (lay_OK _ _) (lay_OK _ _) (by simp only [VecRef.mlen', lay_length, Nat.max_self]; omega) (by simp only [VecRef.mlen', lay_length, Nat.max_self]; omega)
  simp only [VecRef.mlen', lay_length, Nat.max_self, val_lay, hm] at h1
  refine Ev.bind h1 ?_
  have h2 := VecRef.Add_is (lay (val v % 2 ^ wid m) (wds m)) (lay (val v % 2 ^ wid m &&& val u % 2 ^ wid m) (wds m)) (lay_OK _ _) (lay_OK _ _) (by simp only [VecRef.mlen', lay_length, Nat.max_self]; omega) (by simp only [VecRef.mlen', lay_length, Nat.max_self]; omega)
  have hx : (val v % 2 ^ wid m &&& val u % 2 ^ wid m) % 2 ^ (64 * wds m) = (val v % 2 ^ wid m &&& val u % 2 ^ wid m) := Nat.mod_eq_of_lt (Nat.lt_of_le_of_lt Nat.and_le_left (Nat.lt_of_lt_of_le (Nat.mod_lt _ (Nat.two_pow_pos _)) (Nat.pow_le_pow_right (by decide) hw)))
  simp only [VecRef.mlen', lay_length, Nat.max_self, val_lay, hm, hx] at h2
  refine Ev.bind h2 ?_
  have h3 := VecRef.Sub_is (lay (val v % 2 ^ wid m) (wds m)) (lay (val v % 2 ^ wid m &&& val u % 2 ^ wid m) (wds m)) (lay_OK _ _) (lay_OK _ _) (by simp only [VecRef.mlen', lay_length, Nat.max_self]; omega) (by simp only [VecRef.mlen', lay_length, Nat.max_self]; omega)
  simp only [VecRef.mlen', lay_length, Nat.max_self, val_lay, hm, hx] at h3
  refine Ev.bind h3 ?_
  have h5 := VecRef.Or_is (lay (val v % 2 ^ wid m + (val v % 2 ^ wid m &&& val u % 2 ^ wid m)) (wds m)) (lay (val v % 2 ^ wid m + 2 ^ (64 * wds m) - (val v % 2 ^ wid m &&& val u % 2 ^ wid m)) (wds m)) (lay_OK _ _) (lay_OK _ _) (by simp only [VecRef.mlen', lay_length, Nat.max_self]; omega) (by simp only [VecRef.mlen', lay_length, Nat.max_self]; omega)
  simp only [VecRef.mlen', lay_length, Nat.max_self, val_lay] at h5
  refine Ev.bind h5 ?_
  refine Ev.bind (VecRef2.Fit_is _ m (lay_OK _ _)) ?_
  rw [val_lay, Nat.mod_mod_of_dvd _ (Nat.pow_dvd_pow 2 hw), num_hyyro _ _ _ _ hw]
  exact Ev.now _

theorem HyyroRow : tattinglaw20_HyyroRow.Pure := by
  intro x y m hx1 hx2 hx3 hy1 hy2 hy3 hm
  have hx := AwakeM.ok_of hx3
  have hy := AwakeM.ok_of hy3
  clear hx1 hx2 hx3 hy1 hy2 hy3 hm
  refine Ev.rounds ?_
  unfold tattinglaw20_HyyroRow.f
  refine Ev.bind AwakeM.awake_is ?_
  simp only [if_true]
  have many : Ev (fun k => tattinglaw20_HyyroRow.j0 k x y m true) true := by
    refine Ev.step (fun k => ?_) (Ev.now _)
    simp only [tattinglaw20_HyyroRow.j0]
    rfl
  by_cases h1 : (x.length : Int) > 6
  · simp only [if_pos h1]
    exact many
  · simp only [if_neg h1]
    by_cases h2 : (y.length : Int) > 6
    · simp only [if_pos h2]
      exact many
    · simp only [if_neg h2]
      by_cases h3 : m > 400
      · simp only [decide_eq_true h3]
        exact many
      · simp only [decide_eq_false h3]
        refine Ev.step (f := fun k => (hyyro_Row.f k x y m).bind fun t294 => ((tattingref20_Row.f k x y m).bind fun t297 => ((tattingref5_Same.f k t294 t297).bind fun t300 => (some t300)))) (fun k => ?_) ?_
        · simp only [tattinglaw20_HyyroRow.j0]
          rfl
        refine Ev.bind (hyyro_is x y m hx hy) ?_
        refine Ev.bind (refrow_is x y m hx hy) ?_
        refine Ev.bind (VecRef.Same_eq _ (by rw [lay_length]; have := wds_le m; omega)) ?_
        exact Ev.now _
end Go.Proofs.Ytnnihdhjphmohaa.Pure
