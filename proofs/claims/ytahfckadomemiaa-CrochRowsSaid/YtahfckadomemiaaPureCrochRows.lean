/- Each bit of each row is 0 just where the table's row goes up (CrochRows). -/
import Derived.Test.YtahfckadomemiaaPVx8
import Derived.Test.YtahfckadomemiaaRowsTCroch
import Derived.Test.YtahfckadomemiaaAwakeM
namespace Go.Proofs.Ytahfckadomemiaa.Pure
open Go Go.RowKit Go.Proofs.Ytahfckadomemiaa.PV Go.Proofs.YtahfckadomemiaaW.PrintWords Go.Proofs.YtahfckadomemiaaW.PrintLast Go.Proofs.Ytahfckadomemiaa.VecMath VecSpec RowSpec Masks Lcs
theorem CrochRows : tattinglaw21_CrochRows.Pure := by
  intro a b ha1 ha2 ha3 hb1 hb2 hb3
  clear ha1 ha2 hb1 hb2
  refine Ev.rounds ?_
  unfold tattinglaw21_CrochRows.f
  refine Ev.bind AwakeM.awake_is ?_
  simp only [if_true]
  have many : Ev (fun k => tattinglaw21_CrochRows.j0 k a b true) true := by
    refine Ev.step (fun k => ?_) (Ev.now _)
    simp only [tattinglaw21_CrochRows.j0]
    rfl
  by_cases h1 : (a.length : Int) > 40
  · simp only [if_pos h1]
    exact many
  · simp only [if_neg h1]
    by_cases h2 : (b.length : Int) > 130
    · simp only [decide_eq_true h2]
      exact many
    · simp only [decide_eq_false h2]
      clear many
      have hA : (a.map (· % 4)).length = a.length := List.length_map _
      have hB : (b.map (· % 4)).length = b.length := List.length_map _
      have wA := wf4 a
      have wB := wf4 b
      have fA := few4_is a (by omega) ha3
      have fB := few4_is b (by omega) hb3
      generalize a.map (· % 4) = A at *
      generalize b.map (· % 4) = B at *
      have hG : Grd A B := ⟨by omega, by omega, wA, wB⟩
      have l1 : A.length ≤ 200 := by omega
      have l2 : B.length ≤ 200 := by omega
      have l3 : (rowsN A B (A.length + 1)).length ≤ 1000 := by rw [rowsN_len]; omega
      have hw := wid_nat B.length (by omega)
      have hR : Ev (fun k => croch_Rows.f k A B) (rowsN A B (A.length + 1)) := by
        unfold croch_Rows.f
        simp only [if_pos hG]
        exact Ev.now _
      have hR2 := rrows_is A B l1 l2 hw
      have hS := srows_is (rowsN A B (A.length + 1)) l3 (rowsN_le A B _)
      refine Ev.step (f := fun k => (tattingref1_Few.f k a 4).bind fun t278 => ((tattingref1_Few.f k b 4).bind fun t281 => ((croch_Rows.f k t278 t281).bind fun t284 => ((tattingref20_Rows.f k t278 t281).bind fun t287 => ((tattingref20_SameRows.f k t284 t287).bind fun t290 => (some t290)))))) (fun k => ?_) ?_
      · simp only [tattinglaw21_CrochRows.j0]
        rfl
      exact Ev.bind fA (Ev.bind fB (Ev.bind hR (Ev.bind hR2 (Ev.bind hS (Ev.now _)))))
end Go.Proofs.Ytahfckadomemiaa.Pure
