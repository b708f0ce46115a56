import Derived.Test.YtbbbcdfagmcfgaaSamWalkGood
import Derived.Test.YtbbbcdfagmcfgaaGridX
namespace Go.Proofs.Ytbbbcdfagmcfgaa.EWalkGood
open Go Go.Proofs.Ytbbbcdfagmcfgaa.AE Go.Proofs.Ytbbbcdfagmcfgaa Go.Proofs.Ytbbbcdfagmcfgaa.WayN Go.Proofs.Ytbbbcdfagmcfgaa.Lcs
set_option linter.unusedVariables false
set_option linter.unusedSimpArgs false
theorem awake : R9 1300 () = some true := by kernel_rfl
theorem len_is (n : Nat) (a b : List Int) (ha : a.length ≤ 1000) (hb : b.length ≤ 1000) : R19 (n + 2) a b = some ((lcs a b : Nat) : Int) := by
  have hB : R34 (n + 1) a b = some (Pure.gridB a b) := by
    show GridX.behS (a, b) = _
    unfold GridX.behS
    rw [if_pos ⟨ha, hb⟩]
  have hgl : (Pure.gridB a b).length = a.length + 1 := by simp [Pure.gridB]
  have hr : (Pure.gridB a b).getD 0 [] = Pure.rowB a b 0 := by
    rw [List.getD_eq_getElem?_getD, Pure.gridB, List.getElem?_map, List.getElem?_range (by omega)]; rfl
  have hrl : (Pure.rowB a b 0).length = b.length + 1 := Pure.row_len ..
  have hg := Pure.row_get a b 0 0 (by omega)
  have t0 : (0 : Int).toNat = 0 := rfl
  rw [u19]
  unfold r19
  simp only [hB, Option.bind_some, t0, hr, hg, hgl, hrl]
  rw [if_pos ⟨by omega, by omega⟩, if_pos ⟨by omega, by omega⟩]
  rfl
theorem wf_all {l : List Int} (w : WF (.slice (.int .i64)) l) : ∀ x ∈ l, inI64 x = true := fun x hx => wf_in (w.2 x hx)
theorem law (a b : List Int) (e : Int) (o : Bool) (w0 : WF (.slice (.int .i64)) a) (w1 : WF (.slice (.int .i64)) b) (w2 : WF (.int .u8) e) : R5 1301 a b e o = some true := by
  have hx := wf_all w0
  have hy := wf_all w1
  obtain ⟨p2, q2⟩ := wf_u8 w2
  clear w0 w1 w2
  rw [u5]
  unfold r5
  rw [awake, Option.bind_some]
  simp only [Bool.not_true, cond_false]
  by_cases ha : a.length ≤ 40
  · rw [decide_eq_false (show ¬ (a.length : Int) > 40 by omega), beq_self_eq_true, cond_true]
    by_cases hb : b.length ≤ 40
    · rw [decide_eq_false (show ¬ (b.length : Int) > 40 by omega), cond_false]
      have f1 : IntKind.wrap .i64 e = e := w64 (by omega) (by omega)
      have f2 : e.tmod 50 = e % 50 := Int.tmod_eq_emod_of_nonneg (by omega)
      have f3 : IntKind.wrap .i64 (1 + e % 50) = 1 + e % 50 := w64 (by omega) (by omega)
      have f4 : IntKind.wrap .i64 ((1 : Int) - 1) = 0 := by decide
      have f5 : IntKind.wrap .i64 ((1 : Int) - 0) = 1 := by decide
      have run : ∀ kind e0 : Int, kind = 0 ∨ kind = 1 → 1 ≤ e0 → R8 1300 kind a b e0 = _ := fun kind e0 h1 h2 => run_is 1294 kind e0 a b h1 h2 (by omega) (by omega) (by omega) (by omega) hx hy
      have hle := way_le a b a.length b.length (Nat.le_refl _) (Nat.le_refl _)
      have hlen := way_len a b _ a.length b.length (Nat.le_refl _) (Nat.le_refl _) (Nat.le_refl _)
      rw [tabF_corner] at hlen
      have hgood := way_good a b _ a.length b.length (Nat.le_refl _) (Nat.le_refl _) (Nat.le_refl _)
      have hs : R15 1300 (way a b a.length b.length).reverse (way a b a.length b.length).reverse = some true := sprs_is 1299 _ (by rw [List.length_reverse]; omega) (by rw [List.length_reverse]; omega)
      have hG : R18 1300 a b (way a b a.length b.length).reverse = some true := by
        rw [← hgood]
        exact p7good_is 1299 a b _ (by rw [List.length_reverse]; omega) (by rw [List.length_reverse]; omega)
      have hL := len_is 1298 a b (by omega) (by omega)
      cases o with
      | true =>
        simp only [cond_true, f1, f2, f3, f4]
        rw [if_neg (by decide), run 1 _ (.inr rfl) (by omega)]
        simp only [Option.bind_some]
        rw [run 0 1 (.inl rfl) (by omega)]
        simp only [Option.bind_some, decide_true, beq_self_eq_true, cond_true, hs, hG, hL, List.length_reverse, hlen]
      | false =>
        simp only [cond_false, f1, f2, f3, f5]
        rw [if_neg (by decide), run 0 _ (.inl rfl) (by omega)]
        simp only [Option.bind_some]
        rw [run 1 1 (.inr rfl) (by omega)]
        simp only [Option.bind_some, decide_true, beq_self_eq_true, cond_true, hs, hG, hL, List.length_reverse, hlen]
    · rw [decide_eq_true (show (b.length : Int) > 40 by omega), cond_true]
  · rw [decide_eq_true (show (a.length : Int) > 40 by omega), show (true == false) = false from rfl, cond_false]
theorem law_run (a0 : List Int) (w0 : WF (.slice (.int .i64)) a0) (a1 : List Int) (w1 : WF (.slice (.int .i64)) a1) (a2 : Int) (w2 : WF (.int .u8) a2) (a3 : Bool) (w3 : WF .bool a3) : runHow E (evalF E 1300) 1300 s5 (a0, a1, a2, a3) h5 = some true :=
  (law_R 1300 a0 a1 a2 a3).trans (law a0 a1 a2 a3 w0 w1 w2)
end Go.Proofs.Ytbbbcdfagmcfgaa.EWalkGood
