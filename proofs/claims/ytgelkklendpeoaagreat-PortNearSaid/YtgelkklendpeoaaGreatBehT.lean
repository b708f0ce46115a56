/- The table of what is left (tattingref7.Behind, Len). -/
import Derived.Test.YtgelkklendpeoaaGreatWQ
import Derived.Test.YtgelkklendpeoaaGreatVecMath
import Derived.Test.YtgelkklendpeoaaGreatLcsT
namespace Go.Proofs.YtgelkklendpeoaaGreat.Pure
open Go Go.RowKit Go.Proofs.YtgelkklendpeoaaGreat.PV Go.Proofs.YtgelkklendpeoaaGreatW.PrintWords Go.Proofs.YtgelkklendpeoaaGreatW.PrintLast Go.Proofs.YtgelkklendpeoaaGreat.VecMath Lcs
set_option linter.unusedVariables false
set_option linter.unusedSimpArgs false
def rowB (a b : List Int) (i : Nat) : List Int := (List.range (b.length + 1)).map fun j => (tabB a b i j : Int)
def prowB (a b : List Int) (i d : Nat) : List Int := (List.range (b.length + 1)).map fun j => if d ≤ j then (tabB a b i j : Int) else 0
def rowsB (a b : List Int) (e : Nat) : List (List Int) := (List.range (a.length + 1)).map fun k => if e ≤ k then rowB a b k else []
def gridB (a b : List Int) : List (List Int) := (List.range (a.length + 1)).map fun k => rowB a b k
theorem prow_len (a b : List Int) (i d : Nat) : (prowB a b i d).length = b.length + 1 := by simp [prowB]
theorem row_len (a b : List Int) (i : Nat) : (rowB a b i).length = b.length + 1 := by simp [rowB]
theorem rows_len (a b : List Int) (e : Nat) : (rowsB a b e).length = a.length + 1 := by simp [rowsB]
theorem rows_get (a b : List Int) (e k : Nat) (hk : k ≤ a.length) (he : e ≤ k) : (rowsB a b e).getD k [] = rowB a b k := by
  rw [List.getD_eq_getElem?_getD, rowsB, List.getElem?_map, List.getElem?_range (show k < a.length + 1 by omega)]
  simp [he]
theorem prow_get (a b : List Int) (i d j : Nat) (hj : j ≤ b.length) (hd : d ≤ j) : (prowB a b i d).getD j 0 = (tabB a b i j : Int) := by
  rw [List.getD_eq_getElem?_getD, prowB, List.getElem?_map, List.getElem?_range (show j < b.length + 1 by omega)]
  simp [hd]
theorem row_get (a b : List Int) (i j : Nat) (hj : j ≤ b.length) : (rowB a b i).getD j 0 = (tabB a b i j : Int) := by
  rw [List.getD_eq_getElem?_getD, rowB, List.getElem?_map, List.getElem?_range (show j < b.length + 1 by omega)]
  rfl
theorem prow_set (a b : List Int) (i d : Nat) (hd : d ≤ b.length) : (prowB a b i (d + 1)).set d (tabB a b i d : Int) = prowB a b i d := by
  apply List.ext_getElem?
  intro j
  by_cases hj : j = d
  · subst hj
    rw [List.getElem?_set_self (by rw [prow_len]; omega), prowB, List.getElem?_map, List.getElem?_range (show j < b.length + 1 by omega)]
    simp
  · rw [List.getElem?_set_ne (Ne.symm hj)]
    simp only [prowB, List.getElem?_map]
    by_cases h : j < b.length + 1
    · rw [List.getElem?_range h]
      simp only [Option.map_some, Option.some.injEq]
      by_cases k : d ≤ j
      · rw [if_pos k, if_pos (by omega)]
      · rw [if_neg k, if_neg (by omega)]
    · rw [List.getElem?_eq_none (by simp; omega)]; rfl
theorem prow_zero (a b : List Int) (i : Nat) : prowB a b i 0 = rowB a b i := by simp [prowB, rowB]
theorem prow_start (a b : List Int) (i : Nat) : List.replicate (b.length + 1) 0 = prowB a b i b.length := by
  apply List.ext_getElem?
  intro j
  rw [prowB, List.getElem?_map, List.getElem?_replicate]
  by_cases h : j < b.length + 1
  · rw [if_pos h, List.getElem?_range h]
    simp only [Option.map_some, Option.some.injEq]
    by_cases k : b.length ≤ j
    · obtain rfl : j = b.length := by omega
      rw [if_pos k, tabB_end2]; rfl
    · rw [if_neg k]
  · rw [if_neg h, List.getElem?_eq_none (by simp; omega)]; rfl
theorem prow_last (a b : List Int) : prowB a b a.length b.length = rowB a b a.length := by
  rw [← prow_start, rowB]
  apply List.ext_getElem?
  intro j
  rw [List.getElem?_map, List.getElem?_replicate]
  by_cases h : j < b.length + 1
  · rw [if_pos h, List.getElem?_range h, Option.map_some, tabB_end]; rfl
  · rw [if_neg h, List.getElem?_eq_none (by simp; omega)]; rfl
theorem rows_set (a b : List Int) (e : Nat) (he : e ≤ a.length) : (rowsB a b (e + 1)).set e (rowB a b e) = rowsB a b e := by
  apply List.ext_getElem?
  intro j
  by_cases hj : j = e
  · subst hj
    rw [List.getElem?_set_self (by rw [rows_len]; omega), rowsB, List.getElem?_map, List.getElem?_range (show j < a.length + 1 by omega)]
    simp
  · rw [List.getElem?_set_ne (Ne.symm hj)]
    simp only [rowsB, List.getElem?_map]
    by_cases h : j < a.length + 1
    · rw [List.getElem?_range h]
      simp only [Option.map_some, Option.some.injEq]
      by_cases k : e ≤ j
      · rw [if_pos k, if_pos (by omega)]
      · rw [if_neg k, if_neg (by omega)]
    · rw [List.getElem?_eq_none (by simp; omega)]; rfl
theorem rd_nat (l : List Int) (i : Nat) : rd l (i : Int) = l.getD i 0 := by unfold rd; rw [Int.toNat_natCast]
theorem rdL_nat (l : List (List Int)) (i : Nat) : rd_L1 l (i : Int) = l.getD i [] := by unfold rd_L1; rw [Int.toNat_natCast]
theorem beh_in (a b : List Int) (ha : a.length ≤ 1000) (hb : b.length ≤ 1000) (r : List (List Int)) (e : Nat) (he : e ≤ a.length)
    (h0 : Ev (fun k => tattingref7_Behind.l0 k a b (rowsB a b e) ((e : Int) - 1)) r) : ∀ d, d ≤ b.length → (e = a.length → d = b.length) →
    Ev (fun k => tattingref7_Behind.l1 k a b ((rowsB a b (e + 1)).set e (prowB a b e d)) (e : Int) ((d : Int) - 1)) r
  | d, hd, hl => by
    have hwe : wrap64 ((e : Int) - 1) = (e : Int) - 1 := wrap64_id (by omega) (by omega)
    have stop : prowB a b e d = rowB a b e → Ev (fun k => tattingref7_Behind.j2 k a b ((rowsB a b (e + 1)).set e (prowB a b e d)) (e : Int) ((d : Int) - 1) false) r := by
      intro hp
      rw [hp, rows_set a b e he]
      refine Ev.step (f := fun k => tattingref7_Behind.l0 k a b (rowsB a b e) ((e : Int) - 1)) (fun k => ?_) h0
      simp only [tattingref7_Behind.j2]
      rw [if_neg (by decide), hwe]
    by_cases hlast : e = a.length
    · refine Ev.step (f := fun k => tattingref7_Behind.j2 k a b ((rowsB a b (e + 1)).set e (prowB a b e d)) (e : Int) ((d : Int) - 1) false) (fun k => ?_) (stop ?_)
      · simp only [tattingref7_Behind.l1]
        rw [if_neg (by omega)]
      · rw [hl hlast, hlast]; exact prow_last a b
    · cases d with
      | zero =>
        refine Ev.step (f := fun k => tattingref7_Behind.j2 k a b ((rowsB a b (e + 1)).set e (prowB a b e 0)) (e : Int) (((0 : Nat) : Int) - 1) false) (fun k => ?_) (stop (prow_zero a b e))
        simp only [tattingref7_Behind.l1]
        rw [if_pos (by omega), decide_eq_false (by omega)]
      | succ d =>
        have ih := beh_in a b ha hb r e he h0 d (by omega) (fun h => absurd h hlast)
        have hd1 : (((d + 1 : Nat) : Int) - 1) = (d : Int) := by omega
        rw [hd1]
        refine Ev.step (f := fun k => tattingref7_Behind.j2 k a b ((rowsB a b (e + 1)).set e (prowB a b e (d + 1))) (e : Int) (d : Int) true) (fun k => ?_) ?_
        · simp only [tattingref7_Behind.l1]
          rw [if_pos (by omega), decide_eq_true (by omega)]
        have hlen : ((rowsB a b (e + 1)).set e (prowB a b e (d + 1))).length = a.length + 1 := by rw [List.length_set, rows_len]
        have g0 : rd_L1 ((rowsB a b (e + 1)).set e (prowB a b e (d + 1))) (e : Int) = prowB a b e (d + 1) := by
          rw [rdL_nat, List.getD_eq_getElem?_getD, List.getElem?_set_self (by rw [rows_len]; omega)]; rfl
        have g1 : rd_L1 ((rowsB a b (e + 1)).set e (prowB a b e (d + 1))) ((e : Int) + 1) = rowB a b (e + 1) := by
          rw [show (e : Int) + 1 = ((e + 1 : Nat) : Int) by omega, rdL_nat, List.getD_eq_getElem?_getD, List.getElem?_set_ne (by omega), ← List.getD_eq_getElem?_getD]
          exact rows_get a b (e + 1) (e + 1) (by omega) (Nat.le_refl _)
        have w1 : wrap64 ((e : Int) + 1) = (e : Int) + 1 := wrap64_id (by omega) (by omega)
        have w2 : wrap64 ((d : Int) + 1) = (d : Int) + 1 := wrap64_id (by omega) (by omega)
        have w3 : wrap64 ((d : Int) - 1) = (d : Int) - 1 := wrap64_id (by omega) (by omega)
        have hlea := lcs_le (a.drop (e + 1)) (b.drop (d + 1))
        rw [List.length_drop] at hlea
        have r1 : rd (rowB a b (e + 1)) ((d : Int) + 1) = (tabB a b (e + 1) (d + 1) : Int) := by
          rw [show (d : Int) + 1 = ((d + 1 : Nat) : Int) by omega, rd_nat, row_get a b (e + 1) (d + 1) hd]
        have r2 : rd (rowB a b (e + 1)) (d : Int) = (tabB a b (e + 1) d : Int) := by rw [rd_nat, row_get a b (e + 1) d (by omega)]
        have r3 : rd (prowB a b e (d + 1)) ((d : Int) + 1) = (tabB a b e (d + 1) : Int) := by
          rw [show (d : Int) + 1 = ((d + 1 : Nat) : Int) by omega, rd_nat, prow_get a b e (d + 1) (d + 1) hd (Nat.le_refl _)]
        have w4 : wrap64 ((tabB a b (e + 1) (d + 1) : Int) + 1) = ((tabB a b (e + 1) (d + 1) + 1 : Nat) : Int) := by
          rw [wrap64_id (by omega) (by unfold tabB; omega)]; omega
        have ra : rd a (e : Int) = a[e]'(by omega) := by rw [rd_nat, List.getD_eq_getElem?_getD, List.getElem?_eq_getElem (by omega)]; rfl
        have rb : rd b (d : Int) = b[d]'(by omega) := by rw [rd_nat, List.getD_eq_getElem?_getD, List.getElem?_eq_getElem (by omega)]; rfl
        have hs := tabB_succ a b e d (by omega) (by omega)
        refine Ev.step (f := fun k => tattingref7_Behind.l1 k a b ((rowsB a b (e + 1)).set e (prowB a b e d)) (e : Int) ((d : Int) - 1)) (fun k => ?_) ih
        simp only [tattingref7_Behind.j2, g0, g1, w1, w2, w3, r1, r2, r3, w4, ra, rb, Int.toNat_natCast]
        rw [if_pos (by decide), if_pos (by omega), if_pos (by omega), if_pos (by omega), if_pos (by omega)]
        by_cases q : a[e]'(by omega) = b[d]'(by omega)
        · rw [if_pos q] at hs ⊢
          rw [if_pos (by rw [hlen]; omega), if_pos (by omega), if_pos (by rw [hlen]; omega), if_pos (by omega), if_pos (by rw [row_len]; omega), if_pos (by rw [prow_len]; omega)]
          rw [List.set_set, ← hs, prow_set a b e d (by omega)]
        · rw [if_neg q] at hs ⊢
          rw [if_pos (by rw [hlen]; omega), if_pos (by omega), if_pos (by rw [hlen]; omega), if_pos (by rw [row_len]; omega), if_pos (by omega), if_pos (by rw [prow_len]; omega), if_pos (by rw [prow_len]; omega)]
          have hm : mx (tabB a b (e + 1) d : Int) (tabB a b e (d + 1) : Int) = (tabB a b e d : Int) := by rw [hs]; unfold mx; split <;> omega
          rw [List.set_set, hm, prow_set a b e d (by omega)]
theorem beh_out (a b : List Int) (ha : a.length ≤ 1000) (hb : b.length ≤ 1000) : ∀ e, e ≤ a.length + 1 → Ev (fun k => tattingref7_Behind.l0 k a b (rowsB a b e) ((e : Int) - 1)) (gridB a b)
  | 0, _ => by
    refine Ev.step (fun k => ?_) (Ev.now _)
    simp only [tattingref7_Behind.l0]
    rw [if_neg (by omega)]
    simp [rowsB, gridB]
  | e + 1, he => by
    have ih := beh_out a b ha hb e (by omega)
    have h := beh_in a b ha hb _ e (by omega) ih b.length (Nat.le_refl _) (fun _ => rfl)
    rw [show (((e + 1 : Nat) : Int) - 1) = (e : Int) by omega]
    have w1 : wrap64 ((b.length : Int) + 1) = ((b.length + 1 : Nat) : Int) := by rw [wrap64_id (by omega) (by omega)]; omega
    have w2 : wrap64 ((b.length : Int) - 1) = (b.length : Int) - 1 := wrap64_id (by omega) (by omega)
    refine Ev.step (f := fun k => tattingref7_Behind.l1 k a b ((rowsB a b (e + 1)).set e (prowB a b e b.length)) (e : Int) ((b.length : Int) - 1)) (fun k => ?_) h
    simp only [tattingref7_Behind.l0, w1, w2, Int.toNat_natCast]
    rw [if_pos (by omega), if_pos (by omega), if_pos (by omega), if_pos (by omega), if_pos (by rw [rows_len]; omega), prow_start a b e]
theorem behind_is (a b : List Int) (ha : a.length ≤ 1000) (hb : b.length ≤ 1000) : Ev (fun k => tattingref7_Behind.f k a b) (gridB a b) := by
  have h := beh_out a b ha hb (a.length + 1) (Nat.le_refl _)
  have w1 : wrap64 ((a.length : Int) + 1) = ((a.length + 1 : Nat) : Int) := by rw [wrap64_id (by omega) (by omega)]; omega
  have e0 : List.replicate (a.length + 1) ([] : List Int) = rowsB a b (a.length + 1) := by
    rw [rowsB]
    apply List.ext_getElem?
    intro j
    rw [List.getElem?_map, List.getElem?_replicate]
    by_cases hj : j < a.length + 1
    · rw [if_pos hj, List.getElem?_range hj, Option.map_some, if_neg (by omega)]
    · rw [if_neg hj, List.getElem?_eq_none (by simp; omega)]; rfl
  unfold tattingref7_Behind.f
  simp only [w1, Int.toNat_natCast]
  simp only [if_pos (show (0 : Int) ≤ ((a.length + 1 : Nat) : Int) by omega), if_pos (show a.length + 1 ≤ 11728124029610 by omega), e0]
  rw [show (((a.length + 1 : Nat) : Int) - 1) = (a.length : Int) by omega] at h
  exact h
end Go.Proofs.YtgelkklendpeoaaGreat.Pure
