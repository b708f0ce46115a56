import Derived.Test.YtnnihdhjphmohaaPVx1
import Derived.Test.YtnnihdhjphmohaaPVx2
import Derived.Test.YtnnihdhjphmohaaVecMath
import Derived.Test.YtnnihdhjphmohaaVecSpecAt
import Derived.Test.YtnnihdhjphmohaaVecSpecWid
import Derived.Test.YtnnihdhjphmohaaVecSpecFit
import Derived.Test.YtnnihdhjphmohaaVecPopIs
namespace Go.Proofs.Ytnnihdhjphmohaa.VecSpec
open Go.RowKit Go.Proofs.YtnnihdhjphmohaaW.PrintWords Go.Proofs.YtnnihdhjphmohaaW.PrintMore Go.Proofs.Ytnnihdhjphmohaa.XBits Go.Proofs.Ytnnihdhjphmohaa.VecMath Go.Proofs.Ytnnihdhjphmohaa.PV

theorem cnt_words (N : Nat) : ∀ i, cnt N (64 * (i + 1)) = cnt N (64 * i) + cnt (wd N i) 64 := by
  intro i
  rw [show 64 * (i + 1) = 64 * i + 64 by omega, cnt_add]
  congr 1
  apply cnt_congr
  intro j hj
  rw [wd_testBit, decide_eq_true hj, Bool.true_and, Nat.testBit_div_two_pow, Nat.add_comm]
theorem sum_is (N n : Nat) (hn : n ≤ 16384) : Ev (fun k => vec_Count.l0 k 0 (lay N n) (n : Int) 0) (cnt N (64 * n) : Int) := by
  have key : ∀ d i, i + d = n → Ev (fun k => vec_Count.l0 k (cnt N (64 * i) : Int) (lay N n) (n : Int) (i : Int)) (cnt N (64 * n) : Int) := by
    intro d
    induction d with
    | zero =>
      intro i hi
      obtain rfl : i = n := by omega
      have : ¬ ((i : Int) < (i : Int)) := by omega
      refine Ev.step (fun k => ?_) (Ev.now _)
      simp only [vec_Count.l0]
      rw [if_neg this]
    | succ d ih =>
      intro i hi
      have h1 : (i : Int) < (n : Int) := by omega
      have h0 : (0 : Int) ≤ (i : Int) := Int.natCast_nonneg _
      have hl : (i : Int) < ((lay N n).length : Int) := by rw [lay_length]; exact h1
      have hr : rd (lay N n) (i : Int) = (wd N i : Int) := by
        unfold rd
        rw [Int.toNat_natCast, lay_getD _ _ _ (by omega)]
      have c1 := cnt_le N (64 * i)
      have c2 := cnt_le (wd N i) 64
      refine Ev.step (fun k => ?_) (ih (i + 1) (by omega))
      simp only [vec_Count.l0]
      rw [if_pos h1, if_pos h0, if_pos hl, hr, VecPopIs.pop_is _ (wd_lt _ _), Option.bind_some, wrap64_id (n := (i : Int) + 1) (by omega) (by omega), wrap64_id (by omega) (by omega), cnt_words]
      rfl
  exact key n 0 (by omega)
theorem Count_is (x : List Int) (n : Int) (hx : OK x) : Ev (fun k => vec_Count.f k x n) (cnt (val x) (wid n) : Int) := by
  unfold vec_Count.f
  refine Ev.bind (Fit_is x n hx) ?_
  have h1 := wds_le n
  have h2 := sum_is (val x % 2 ^ wid n) (wds n) h1
  rw [lay_length]
  have e : cnt (val x % 2 ^ wid n) (64 * wds n) = cnt (val x) (wid n) := by
    have h3 := wid_wds n
    generalize wid n = w at *
    obtain ⟨d, hd⟩ : ∃ d, 64 * wds n = w + d := ⟨64 * wds n - w, by omega⟩
    rw [hd, cnt_more]
    · apply cnt_congr
      intro i hi
      rw [Nat.testBit_mod_two_pow, decide_eq_true hi, Bool.true_and]
    · intro i hi _
      rw [Nat.testBit_mod_two_pow, decide_eq_false (by omega), Bool.false_and]
  rw [e] at h2
  exact h2
end Go.Proofs.Ytnnihdhjphmohaa.VecSpec
