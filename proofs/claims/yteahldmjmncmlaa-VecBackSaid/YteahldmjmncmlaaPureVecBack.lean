/- For every two lists of words, a difference of package vec takes back what a sum adds, sums go in either order, the other bits twice are what fits, and both counts together are the width (VecBack). -/
import Derived.Test.YteahldmjmncmlaaPVx24
import Derived.Test.YteahldmjmncmlaaVecSpec2
import Derived.Test.YteahldmjmncmlaaVecRef2
import Derived.Test.YteahldmjmncmlaaVecAwake
namespace Go.Proofs.Yteahldmjmncmlaa.Pure
open Go.RowKit Go.Proofs.Yteahldmjmncmlaa.PV Go.Proofs.YteahldmjmncmlaaW.PrintWords Go.Proofs.YteahldmjmncmlaaW.PrintLast Go.Proofs.Yteahldmjmncmlaa.VecMath
open VecSpec (mlen wid wds inv inv_testBit)

theorem mlen_comm (x y : List Int) : mlen x y = mlen y x := Nat.max_comm _ _
theorem mlen_lay (x y : List Int) (N : Nat) : mlen (lay N (mlen x y)) y = mlen x y := by
  unfold mlen
  rw [lay_length]
  omega
theorem back (X Y n : Nat) (hX : X < 2 ^ n) (hY : Y < 2 ^ n) : ((X + Y) % 2 ^ n + 2 ^ n - Y) % 2 ^ n = X := by
  generalize 2 ^ n = M at *
  by_cases h : X + Y < M
  · rw [Nat.mod_eq_of_lt h, show X + Y + M - Y = X + M by omega, Nat.add_mod_right, Nat.mod_eq_of_lt hX]
  · have e : (X + Y) % M = X + Y - M := by rw [Nat.mod_eq_sub_mod (by omega), Nat.mod_eq_of_lt (show X + Y - M < M by omega)]
    rw [e, show X + Y - M + M - Y = X by omega, Nat.mod_eq_of_lt hX]
theorem wid_nat (c : Nat) (h : c ≤ 1048576) : wid (c : Int) = c := by
  unfold wid
  rw [Int.toNat_natCast, Nat.min_eq_left h]
theorem VecBack : tattinglaw5_VecBack.Pure := by
  intro x y n hx1 hx2 hx3 hy1 hy2 hy3 hn
  have hx := VecAwake.ok_of hx3
  have hy := VecAwake.ok_of hy3
  have hn2 : 0 ≤ n ∧ n ≤ 65535 := by
    simp [Lit.wf, IntKind.min, IntKind.max, IntKind.signed, IntKind.bits] at hn
    omega
  clear hx1 hx2 hx3 hy1 hy2 hy3 hn
  refine Ev.rounds ?_
  unfold tattinglaw5_VecBack.f
  refine Ev.bind VecAwake.awake_is ?_
  simp only [if_true]
  have many : Ev (fun k => tattinglaw5_VecBack.j0 k x y n true) true := by
    refine Ev.step (fun k => ?_) (Ev.now _)
    simp only [tattinglaw5_VecBack.j0]
    rfl
  by_cases h1 : (x.length : Int) > 6
  · simp only [if_pos h1]
    exact many
  · simp only [if_neg h1]
    by_cases h2 : (y.length : Int) > 6
    · simp only [decide_eq_true h2]
      exact many
    · simp only [decide_eq_false h2]
      have hl : mlen x y ≤ 6 := by unfold mlen; omega
      obtain ⟨c, hc, hc4⟩ : ∃ c : Nat, Int.tmod (wrap64 n) 400 = (c : Int) ∧ c < 400 := by
        refine ⟨(n % 400).toNat, ?_, by omega⟩
        rw [wrap64_id (by omega) (by omega), Int.tmod_eq_emod_of_nonneg hn2.1]
        omega
      have hw : wid (c : Int) = c := wid_nat c (by omega)
      have h64 : wrap64 (64 * mx (x.length : Int) (y.length : Int)) = ((64 * mlen x y : Nat) : Int) := by
        rw [VecSpec.mx_len, wrap64_id (by omega) (by omega)]
        omega
      have hw64 : wid ((64 * mlen x y : Nat) : Int) = 64 * mlen x y := wid_nat _ (by omega)
      have hd64 : wds ((64 * mlen x y : Nat) : Int) = mlen x y := by
        show (wid _ + 63) / 64 = _
        rw [hw64]
        omega
      have hX : val x < 2 ^ (64 * mlen x y) := Nat.lt_of_lt_of_le (val_lt hx) (Nat.pow_le_pow_right (by decide) (by unfold mlen; omega))
      have hY : val y < 2 ^ (64 * mlen x y) := Nat.lt_of_lt_of_le (val_lt hy) (Nat.pow_le_pow_right (by decide) (by unfold mlen; omega))
      have hlen : ∀ N, (lay N (mlen x y)).length < 9223372036854775807 := fun N => by rw [lay_length]; omega
      have hlen2 : ∀ N, (lay N (wds (c : Int))).length < 9223372036854775807 := fun N => by
        rw [lay_length]
        exact Nat.lt_of_le_of_lt (VecSpec.wds_le _) (by decide)
      have hadd := VecSpec.Add_is x y hx hy (by omega)
      have hadd2 := VecSpec.Add_is y x hy hx (by rw [mlen_comm]; omega)
      have hsub := VecSpec.Sub_is (lay (val x + val y) (mlen x y)) y (lay_OK _ _) hy (by rw [mlen_lay]; omega)
      have hfit := VecRef2.Fit_is x ((64 * mlen x y : Nat) : Int) hx
      have hnot := VecSpec.Not_is x (c : Int) hx
      have hnot2 := VecSpec.Not_is (lay (inv (val x) (wid (c : Int))) (wds (c : Int))) (c : Int) (lay_OK _ _)
      have hfit2 := VecSpec.Fit_is x (c : Int) hx
      have hcnt := VecSpec2.Count_is x (c : Int) hx
      have hcnt2 := VecSpec2.Count_is (lay (inv (val x) (wid (c : Int))) (wds (c : Int))) (c : Int) (lay_OK _ _)
      have hww : wid (c : Int) ≤ 64 * wds (c : Int) := VecSpec.wid_wds _
      have hinv : val (lay (inv (val x) (wid (c : Int))) (wds (c : Int))) = inv (val x) (wid (c : Int)) := by
        rw [val_lay_lt]
        exact Nat.lt_of_lt_of_le (Nat.sub_lt (Nat.two_pow_pos _) (Nat.succ_pos _)) (Nat.pow_le_pow_right (by decide) hww)
      rw [mlen_lay, val_lay] at hsub
      rw [hw64, hd64, Nat.mod_eq_of_lt hX] at hfit
      rw [mlen_comm y x, Nat.add_comm (val y)] at hadd2
      rw [hinv] at hnot2 hcnt2
      have e1 : lay ((val x + val y) % 2 ^ (64 * mlen x y) + 2 ^ (64 * mlen x y) - val y) (mlen x y) = lay (val x) (mlen x y) := by
        rw [← lay_mod, back _ _ _ hX hY]
      rw [e1] at hsub
      have e2 : lay (inv (inv (val x) (wid (c : Int))) (wid (c : Int))) (wds (c : Int)) = lay (val x % 2 ^ wid (c : Int)) (wds (c : Int)) := by
        apply lay_congr
        intro i _
        rw [inv_testBit, inv_testBit, Nat.testBit_mod_two_pow]
        cases decide (i < wid (c : Int)) <;> simp
      rw [e2] at hnot2
      have e3 : cnt (val x) (wid (c : Int)) + cnt (inv (val x) (wid (c : Int))) (wid (c : Int)) = c := by
        rw [cnt_not _ _ _ (fun i hi => by rw [inv_testBit, decide_eq_true hi, Bool.true_and]), hw]
      generalize cnt (val x) (wid (c : Int)) = p at *
      generalize cnt (inv (val x) (wid (c : Int))) (wid (c : Int)) = q at *
      refine Ev.step (f := fun k => (vec_Add.f k x y).bind fun t343 => ((vec_Sub.f k t343 y).bind fun t346 => ((tattingref5_Fit.f k x ((64 * mlen x y : Nat) : Int)).bind fun t349 => ((tattingref5_Same.f k t346 t349).bind fun t352 => (if t352 = true then ((vec_Add.f k x y).bind fun t353 => ((vec_Add.f k y x).bind fun t356 => ((tattingref5_Same.f k t353 t356).bind fun t359 => (if t359 = true then ((vec_Not.f k x (c : Int)).bind fun t360 => ((vec_Not.f k t360 (c : Int)).bind fun t363 => ((vec_Fit.f k x (c : Int)).bind fun t366 => ((tattingref5_Same.f k t363 t366).bind fun t369 => (if t369 = true then ((vec_Count.f k x (c : Int)).bind fun t370 => ((vec_Not.f k x (c : Int)).bind fun t371 => ((vec_Count.f k t371 (c : Int)).bind fun t374 => (some ((wrap64 (t370 + t374)) == (c : Int)))))) else (some false)))))) else (some false))))) else (some false)))))) (fun k => ?_) ?_
      · simp only [tattinglaw5_VecBack.j0]
        rw [hc, h64]
        rfl
      refine Ev.bind hadd ?_
      refine Ev.bind hsub ?_
      refine Ev.bind hfit ?_
      refine Ev.bind (VecRef.Same_eq _ (hlen _)) ?_
      simp only [if_true]
      refine Ev.bind hadd ?_
      refine Ev.bind hadd2 ?_
      refine Ev.bind (VecRef.Same_eq _ (hlen _)) ?_
      simp only [if_true]
      refine Ev.bind hnot ?_
      refine Ev.bind hnot2 ?_
      refine Ev.bind hfit2 ?_
      refine Ev.bind (VecRef.Same_eq _ (hlen2 _)) ?_
      simp only [if_true]
      refine Ev.bind hcnt ?_
      refine Ev.bind hnot ?_
      refine Ev.bind hcnt2 ?_
      rw [wrap64_id (by omega) (by omega), show (p : Int) + (q : Int) = (c : Int) by omega, beq_self_eq_true]
      exact Ev.now _
end Go.Proofs.Yteahldmjmncmlaa.Pure
