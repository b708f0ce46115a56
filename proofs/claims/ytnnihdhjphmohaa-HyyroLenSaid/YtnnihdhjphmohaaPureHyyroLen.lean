/- L, of any numbers (HyyroLen): the zeros of the last row. -/
import Derived.Test.YtnnihdhjphmohaaPVx6
import Derived.Test.YtnnihdhjphmohaaBehT
import Derived.Test.YtnnihdhjphmohaaZerosHyyro
import Derived.Test.YtnnihdhjphmohaaAwakeM
namespace Go.Proofs.Ytnnihdhjphmohaa.Pure
open Go Go.RowKit Go.Proofs.Ytnnihdhjphmohaa.PV Go.Proofs.YtnnihdhjphmohaaW.PrintWords Go.Proofs.YtnnihdhjphmohaaW.PrintLast Go.Proofs.Ytnnihdhjphmohaa.VecMath VecSpec RowSpec Masks Lcs
theorem tab_is (a b : List Int) : ∀ (i j : Nat), i ≤ a.length → j ≤ b.length → tabN a b i j = tabF a b i j
  | 0, j, _, _ => by rw [tabF_zero]; simp [tabN]
  | i + 1, 0, _, _ => by rw [tabF_zero2]; simp [tabN]
  | i + 1, j + 1, hi, hj => by
    rw [tabF_succ a b i j (by omega) (by omega), tabN, tab_is a b i j (by omega) (by omega), tab_is a b i (j + 1) (by omega) hj, tab_is a b (i + 1) j hi (by omega)]
    have e1 : a.getD i 0 = a[i]'(by omega) := by rw [List.getD_eq_getElem?_getD, List.getElem?_eq_getElem (by omega)]; rfl
    have e2 : b.getD j 0 = b[j]'(by omega) := by rw [List.getD_eq_getElem?_getD, List.getElem?_eq_getElem (by omega)]; rfl
    rw [e1, e2]
theorem wid_len (j : Nat) (h : j ≤ 1000) : wid (j : Int) = j := by
  unfold wid
  rw [Int.toNat_natCast]
  exact Nat.min_eq_left (by omega)
theorem HyyroLen : tattinglaw20_HyyroLen.Pure := by
  intro a b ha1 ha2 ha3 hb1 hb2 hb3
  clear ha1 ha2 hb1 hb2
  refine Ev.rounds ?_
  unfold tattinglaw20_HyyroLen.f
  refine Ev.bind AwakeM.awake_is ?_
  simp only [if_true]
  have many : Ev (fun k => tattinglaw20_HyyroLen.j0 k a b true) true := by
    refine Ev.step (fun k => ?_) (Ev.now _)
    simp only [tattinglaw20_HyyroLen.j0]
    rfl
  by_cases h1 : (a.length : Int) > 70
  · simp only [if_pos h1]
    exact many
  · simp only [if_neg h1]
    by_cases h2 : (b.length : Int) > 70
    · simp only [decide_eq_true h2]
      exact many
    · simp only [decide_eq_false h2]
      clear many
      have hG : Grd a b := ⟨by omega, by omega, ha3, hb3⟩
      have hw := wid_len b.length (by omega)
      have hz := zeros a b hw a.length b.length (Nat.le_refl _)
      rw [tab_is a b a.length b.length (Nat.le_refl _) (Nat.le_refl _), tabF_corner] at hz
      have hL : Ev (fun k => hyyro_Len.f k a b) ((lcs a b : Nat) : Int) := by
        unfold hyyro_Len.f
        simp only [if_pos hG, hw]
        rw [show (b.length : Int) - (cnt (stN a b a.length) b.length : Int) = ((lcs a b : Nat) : Int) by omega]
        exact Ev.now _
      refine Ev.step (f := fun k => (hyyro_Len.f k a b).bind fun t239 => ((tattingref7_Len.f k a b).bind fun t240 => (some (t239 == t240)))) (fun k => ?_) ?_
      · simp only [tattinglaw20_HyyroLen.j0]
        rfl
      refine Ev.bind hL (Ev.bind (len_is a b (by omega) (by omega)) ?_)
      simp only [beq_self_eq_true]
      exact Ev.now _
end Go.Proofs.Ytnnihdhjphmohaa.Pure
