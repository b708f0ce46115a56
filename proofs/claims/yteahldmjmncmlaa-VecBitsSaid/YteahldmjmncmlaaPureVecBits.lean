/- For every list of words and every place, the bit that Set of package vec sets is 1, all others are as they were, and one outside turns nothing (VecBits). -/
import Derived.Test.YteahldmjmncmlaaPVx17
import Derived.Test.YteahldmjmncmlaaVecSpec2
import Derived.Test.YteahldmjmncmlaaVecRef
import Derived.Test.YteahldmjmncmlaaVecAwake
namespace Go.Proofs.Yteahldmjmncmlaa.Pure
open Go.RowKit Go.Proofs.Yteahldmjmncmlaa.PV Go.Proofs.YteahldmjmncmlaaW.PrintWords Go.Proofs.YteahldmjmncmlaaW.PrintLast Go.Proofs.Yteahldmjmncmlaa.VecMath
open VecSpec2 (bit bit_neg bit_nat setN)

theorem set_bits (X n : Nat) (hX : X < 2 ^ (64 * n)) (i k : Int) (hk : k ≤ 64 * n) :
    bit (setN X n i % 2 ^ (64 * n)) k = ((decide (k = i) && decide (k ≥ 0) && decide (k < 64 * n)) || bit X k) := by
  by_cases h0 : 0 ≤ k
  · obtain ⟨j, rfl⟩ := Int.eq_ofNat_of_zero_le h0
    rw [bit_nat, bit_nat, Nat.testBit_mod_two_pow]
    unfold setN
    by_cases hj : j < 64 * n
    · have hj' : (j : Int) < 64 * n := by omega
      rw [decide_eq_true hj, decide_eq_true hj', decide_eq_true h0, Bool.true_and, Bool.and_true, Bool.and_true]
      by_cases hi : 0 ≤ i ∧ i.toNat / 64 < n
      · rw [if_pos hi, Nat.testBit_or, Nat.testBit_two_pow, Bool.or_comm]
        congr 1
        by_cases e : i.toNat = j
        · have e' : (j : Int) = i := by omega
          simp [e, e']
        · have e' : ¬ (j : Int) = i := by omega
          simp [e, e']
      · have e' : ¬ (j : Int) = i := by omega
        rw [if_neg hi, decide_eq_false e', Bool.false_or]
    · have hj' : ¬ (j : Int) < 64 * n := by omega
      rw [decide_eq_false hj, decide_eq_false hj', Bool.false_and, Bool.and_false, Bool.false_or, Nat.testBit_lt_two_pow (Nat.lt_of_lt_of_le hX (Nat.pow_le_pow_right (by decide) (by omega)))]
  · have h1 : ¬ k ≥ 0 := h0
    rw [bit_neg h0, bit_neg h0, decide_eq_false h1, Bool.and_false, Bool.false_and, Bool.false_or]
theorem VecBits : tattinglaw5_VecBits.Pure := by
  intro x i hx1 hx2 hx3 hi
  have hx := VecAwake.ok_of hx3
  have hi63 : i < 9223372036854775808 := by
    simp [Lit.wf, IntKind.min, IntKind.max, IntKind.signed, IntKind.bits] at hi
    omega
  clear hx1 hx2 hx3 hi
  refine Ev.rounds ?_
  unfold tattinglaw5_VecBits.f
  refine Ev.bind VecAwake.awake_is ?_
  simp only [if_true]
  by_cases h1 : (x.length : Int) > 8
  · simp only [if_pos h1]
    exact Ev.now _
  · simp only [if_neg h1]
    have hl : x.length ≤ 8 := by omega
    rw [VecSpec2.Set_is x hx (by omega) i hi63]
    simp only [Option.bind_some, lay_length, if_true]
    have hX := val_lt hx
    have hY : val (lay (setN (val x) x.length i) x.length) = setN (val x) x.length i % 2 ^ (64 * x.length) := val_lay _ _
    have hYok := lay_OK (setN (val x) x.length i) x.length
    generalize lay (setN (val x) x.length i) x.length = y at *
    have hn : wrap64 (64 * (x.length : Int)) = 64 * (x.length : Int) := wrap64_id (by omega) (by omega)
    have key : ∀ d : Nat, ∀ k : Int, -1 ≤ k → k + d = 64 * (x.length : Int) + 1 → Ev (fun n => tattinglaw5_VecBits.l0 n x i y k) true := by
      intro d
      induction d with
      | zero =>
        intro k hk hd
        have : ¬ k ≤ 64 * (x.length : Int) := by omega
        refine Ev.step (fun k => ?_) (Ev.now _)
        simp only [tattinglaw5_VecBits.l0]
        rw [hn, if_neg this, VecSpec2.Get_is x hx i hi63, VecRef.Get_is x hx i hi63, Option.bind_some, Option.bind_some]
        congr 1
        exact beq_self_eq_true _
      | succ d ih =>
        intro k hk hd
        have hk1 : k ≤ 64 * (x.length : Int) := by omega
        have ih := ih (k + 1) (by omega) (by omega)
        refine Ev.step (f := fun m => tattinglaw5_VecBits.j1 m x i y k (decide (k = i) && decide (k ≥ 0) && decide (k < 64 * (x.length : Int)))) (fun m => ?_) ?_
        · simp only [tattinglaw5_VecBits.l0]
          rw [hn, if_pos hk1]
          by_cases e : k = i
          · rw [if_pos e, decide_eq_true e, Bool.true_and]
            by_cases g : k ≥ 0
            · rw [if_pos g, decide_eq_true g, Bool.true_and]
            · rw [if_neg g, decide_eq_false g, Bool.false_and]
          · rw [if_neg e, decide_eq_false e, Bool.false_and, Bool.false_and]
        · have hb := set_bits (val x) x.length hX i k hk1
          rw [← hY] at hb
          have hw : wrap64 (k + 1) = k + 1 := wrap64_id (by omega) (by omega)
          refine Ev.step (fun m => ?_) ih
          simp only [tattinglaw5_VecBits.j1]
          rw [VecSpec2.Get_is x hx k (by omega), VecRef.Get_is x hx k (by omega), Option.bind_some, Option.bind_some, VecSpec2.Get_is y hYok k (by omega), Option.bind_some, hw, hb]
          have e1 : VecRef.bit (val x) k = bit (val x) k := rfl
          rw [e1]
          cases (decide (k = i) && decide (k ≥ 0) && decide (k < 64 * (x.length : Int))) <;> cases bit (val x) k <;> simp
    exact key (64 * x.length + 2) (-1) (by omega) (by omega)
end Go.Proofs.Yteahldmjmncmlaa.Pure
