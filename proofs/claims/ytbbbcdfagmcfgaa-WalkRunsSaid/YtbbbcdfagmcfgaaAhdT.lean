/- The table from the front (tattingref7.Turned, Ahead). -/
import Derived.Test.YtbbbcdfagmcfgaaWP
import Derived.Test.YtbbbcdfagmcfgaaBehT
namespace Go.Proofs.Ytbbbcdfagmcfgaa.Pure
open Go Go.RowKit Go.Proofs.Ytbbbcdfagmcfgaa.PV Go.Proofs.YtbbbcdfagmcfgaaW.PrintWords Go.Proofs.YtbbbcdfagmcfgaaW.PrintLast Go.Proofs.Ytbbbcdfagmcfgaa.VecMath Lcs
set_option linter.unusedVariables false
theorem turned_loop (l : List Int) (hl : l.length ≤ 1000) : ∀ e, e ≤ l.length → Ev (fun k => tattingref7_Turned.l0 k l (l.drop e).reverse ((e : Int) - 1)) l.reverse
  | 0, _ => by
    refine Ev.step (fun k => ?_) (Ev.now _)
    simp only [tattingref7_Turned.l0]
    rw [if_neg (by omega), List.drop_zero]
  | e + 1, he => by
    have ih := turned_loop l hl e (by omega)
    have w1 : wrap64 ((e : Int) - 1) = (e : Int) - 1 := wrap64_id (by omega) (by omega)
    have hd : (l.drop e).reverse = (l.drop (e + 1)).reverse ++ [rd l (e : Int)] := by
      rw [List.drop_eq_getElem_cons (show e < l.length by omega), List.reverse_cons]
      unfold rd
      rw [Int.toNat_natCast, List.getD_eq_getElem?_getD, List.getElem?_eq_getElem (show e < l.length by omega)]
      rfl
    rw [show (((e + 1 : Nat) : Int) - 1) = (e : Int) by omega]
    rw [hd] at ih
    refine Ev.step (f := fun k => tattingref7_Turned.l0 k l ((l.drop (e + 1)).reverse ++ [rd l (e : Int)]) ((e : Int) - 1)) (fun k => ?_) ih
    simp only [tattingref7_Turned.l0, w1]
    have hlen : (l.drop (e + 1)).reverse.length < 17592186044416 := by rw [List.length_reverse, List.length_drop]; omega
    rw [if_pos (by omega), if_pos (by omega), if_pos (by omega), if_pos hlen]
theorem turned_is (l : List Int) (hl : l.length ≤ 1000) : Ev (fun k => tattingref7_Turned.f k l) l.reverse := by
  have h := turned_loop l hl l.length (Nat.le_refl _)
  have w1 : wrap64 ((l.length : Int) - 1) = (l.length : Int) - 1 := wrap64_id (by omega) (by omega)
  rw [List.drop_length, List.reverse_nil] at h
  unfold tattingref7_Turned.f
  simp only [w1]
  exact h
def rowF (a b : List Int) (i : Nat) : List Int := (List.range (b.length + 1)).map fun j => (tabF a b i j : Int)
def prowF (a b : List Int) (i d : Nat) : List Int := (List.range (b.length + 1)).map fun j => if j < d then (tabF a b i j : Int) else 0
def rowsF (a b : List Int) (e : Nat) : List (List Int) := (List.range (a.length + 1)).map fun k => if k < e then rowF a b k else []
def gridF (a b : List Int) : List (List Int) := (List.range (a.length + 1)).map fun k => rowF a b k
theorem prowF_len (a b : List Int) (i d : Nat) : (prowF a b i d).length = b.length + 1 := by simp [prowF]
theorem rowF_len (a b : List Int) (i : Nat) : (rowF a b i).length = b.length + 1 := by simp [rowF]
theorem rowsF_len (a b : List Int) (e : Nat) : (rowsF a b e).length = a.length + 1 := by simp [rowsF]
theorem gridF_len (a b : List Int) : (gridF a b).length = a.length + 1 := by simp [gridF]
theorem gridF_get (a b : List Int) (k : Nat) (hk : k ≤ a.length) : (gridF a b).getD k [] = rowF a b k := by
  rw [List.getD_eq_getElem?_getD, gridF, List.getElem?_map, List.getElem?_range (show k < a.length + 1 by omega)]
  rfl
theorem rowF_get (a b : List Int) (i j : Nat) (hj : j ≤ b.length) : (rowF a b i).getD j 0 = (tabF a b i j : Int) := by
  rw [List.getD_eq_getElem?_getD, rowF, List.getElem?_map, List.getElem?_range (show j < b.length + 1 by omega)]
  rfl
theorem prowF_set (a b : List Int) (i d : Nat) (hd : d ≤ b.length) : (prowF a b i d).set d (tabF a b i d : Int) = prowF a b i (d + 1) := by
  apply List.ext_getElem?
  intro j
  by_cases hj : j = d
  · subst hj
    rw [List.getElem?_set_self (by rw [prowF_len]; omega), prowF, List.getElem?_map, List.getElem?_range (show j < b.length + 1 by omega)]
    simp
  · rw [List.getElem?_set_ne (Ne.symm hj)]
    simp only [prowF, List.getElem?_map]
    by_cases h : j < b.length + 1
    · rw [List.getElem?_range h]
      simp only [Option.map_some, Option.some.injEq]
      by_cases k : j < d
      · rw [if_pos k, if_pos (by omega)]
      · rw [if_neg k, if_neg (by omega)]
    · rw [List.getElem?_eq_none (by simp; omega)]; rfl
theorem prowF_start (a b : List Int) (i : Nat) : List.replicate (b.length + 1) 0 = prowF a b i 0 := by
  apply List.ext_getElem?
  intro j
  rw [prowF, List.getElem?_map, List.getElem?_replicate]
  by_cases h : j < b.length + 1
  · rw [if_pos h, List.getElem?_range h]; rfl
  · rw [if_neg h, List.getElem?_eq_none (by simp; omega)]; rfl
theorem prowF_end (a b : List Int) (i : Nat) : prowF a b i (b.length + 1) = rowF a b i := by
  unfold prowF rowF
  refine List.map_congr_left fun j hj => ?_
  rw [List.mem_range] at hj
  rw [if_pos hj]
theorem rowsF_set (a b : List Int) (e : Nat) (he : e ≤ a.length) : (rowsF a b e).set e (rowF a b e) = rowsF a b (e + 1) := by
  apply List.ext_getElem?
  intro j
  by_cases hj : j = e
  · subst hj
    rw [List.getElem?_set_self (by rw [rowsF_len]; omega), rowsF, List.getElem?_map, List.getElem?_range (show j < a.length + 1 by omega)]
    simp
  · rw [List.getElem?_set_ne (Ne.symm hj)]
    simp only [rowsF, List.getElem?_map]
    by_cases h : j < a.length + 1
    · rw [List.getElem?_range h]
      simp only [Option.map_some, Option.some.injEq]
      by_cases k : j < e
      · rw [if_pos k, if_pos (by omega)]
      · rw [if_neg k, if_neg (by omega)]
    · rw [List.getElem?_eq_none (by simp; omega)]; rfl
theorem gridB_get (a b : List Int) (k : Nat) (hk : k ≤ a.length) : (gridB a b).getD k [] = rowB a b k := by
  rw [List.getD_eq_getElem?_getD, gridB, List.getElem?_map, List.getElem?_range (show k < a.length + 1 by omega)]
  rfl
theorem ahd_in (a b : List Int) (ha : a.length ≤ 1000) (hb : b.length ≤ 1000) (r : List (List Int)) (e : Nat) (he : e ≤ a.length)
    (h0 : Ev (fun k => tattingref7_AheadT.l0 k a b (gridB a.reverse b.reverse) (rowsF a b (e + 1)) ((e + 1 : Nat) : Int)) r) : ∀ d i, i + d = b.length + 1 →
    Ev (fun k => tattingref7_AheadT.l1 k a b (gridB a.reverse b.reverse) ((rowsF a b e).set e (prowF a b e i)) (e : Int) (i : Int)) r
  | 0, i, hi => by
    obtain rfl : i = b.length + 1 := by omega
    have w1 : wrap64 ((e : Int) + 1) = ((e + 1 : Nat) : Int) := by rw [wrap64_id (by omega) (by omega)]; omega
    refine Ev.step (f := fun k => tattingref7_AheadT.l0 k a b (gridB a.reverse b.reverse) (rowsF a b (e + 1)) ((e + 1 : Nat) : Int)) (fun k => ?_) h0
    simp only [tattingref7_AheadT.l1, w1]
    rw [if_neg (by omega), prowF_end, rowsF_set a b e he]
  | d + 1, i, hi => by
    have ih := ahd_in a b ha hb r e he h0 d (i + 1) (by omega)
    have w1 : wrap64 ((i : Int) + 1) = ((i + 1 : Nat) : Int) := by rw [wrap64_id (by omega) (by omega)]; omega
    have w2 : wrap64 ((a.length : Int) - (e : Int)) = ((a.length - e : Nat) : Int) := by rw [wrap64_id (by omega) (by omega)]; omega
    have w3 : wrap64 ((b.length : Int) - (i : Int)) = ((b.length - i : Nat) : Int) := by rw [wrap64_id (by omega) (by omega)]; omega
    have hgl : (gridB a.reverse b.reverse).length = a.length + 1 := by simp [gridB]
    have hr1 : rd_L2 (gridB a.reverse b.reverse) ((a.length - e : Nat) : Int) = rowB a.reverse b.reverse (a.length - e) := by
      rw [rdL_nat]; exact gridB_get _ _ _ (by rw [List.length_reverse]; omega)
    have hr2 : rd (rowB a.reverse b.reverse (a.length - e)) ((b.length - i : Nat) : Int) = (tabF a b e i : Int) := by
      rw [rd_nat, row_get _ _ _ _ (by rw [List.length_reverse]; omega), tabF_turn a b e i he (by omega)]
    have hrl : (rowB a.reverse b.reverse (a.length - e)).length = b.length + 1 := by rw [row_len, List.length_reverse]
    have hr3 : rd_L2 ((rowsF a b e).set e (prowF a b e i)) (e : Int) = prowF a b e i := by
      rw [rdL_nat, List.getD_eq_getElem?_getD, List.getElem?_set_self (by rw [rowsF_len]; omega)]; rfl
    refine Ev.step (f := fun k => tattingref7_AheadT.l1 k a b (gridB a.reverse b.reverse) ((rowsF a b e).set e (prowF a b e (i + 1))) (e : Int) ((i + 1 : Nat) : Int)) (fun k => ?_) ih
    simp only [tattingref7_AheadT.l1, w1, w2, w3, hr1, hr2, hr3, Int.toNat_natCast, List.length_set, rowsF_len, prowF_len, hgl, hrl, List.set_set, prowF_set a b e i (show i ≤ b.length by omega)]
    rw [if_pos (by omega), if_pos (by omega), if_pos (by omega), if_pos (by omega), if_pos (by omega), if_pos (by omega), if_pos (by omega), if_pos (by omega), if_pos (by omega)]
theorem ahd_out (a b : List Int) (ha : a.length ≤ 1000) (hb : b.length ≤ 1000) : ∀ d e, e + d = a.length + 1 →
    Ev (fun k => tattingref7_AheadT.l0 k a b (gridB a.reverse b.reverse) (rowsF a b e) (e : Int)) (gridF a b)
  | 0, e, he => by
    obtain rfl : e = a.length + 1 := by omega
    refine Ev.step (fun k => ?_) (Ev.now _)
    simp only [tattingref7_AheadT.l0]
    rw [if_neg (by omega)]
    unfold rowsF gridF
    congr 1
    refine List.map_congr_left fun j hj => ?_
    rw [List.mem_range] at hj
    rw [if_pos hj]
  | d + 1, e, he => by
    have ih := ahd_out a b ha hb d (e + 1) (by omega)
    have h := ahd_in a b ha hb _ e (by omega) ih (b.length + 1) 0 (by omega)
    have w1 : wrap64 ((b.length : Int) + 1) = ((b.length + 1 : Nat) : Int) := by rw [wrap64_id (by omega) (by omega)]; omega
    refine Ev.step (f := fun k => tattingref7_AheadT.l1 k a b (gridB a.reverse b.reverse) ((rowsF a b e).set e (prowF a b e 0)) (e : Int) ((0 : Nat) : Int)) (fun k => ?_) h
    simp only [tattingref7_AheadT.l0, w1, Int.toNat_natCast, rowsF_len]
    rw [if_pos (by omega), if_pos (by omega), if_pos (by omega), if_pos (by omega), if_pos (by omega), prowF_start a b e]
    rfl
theorem ahead_is (a b : List Int) (ha : a.length ≤ 1000) (hb : b.length ≤ 1000) : Ev (fun k => tattingref7_Ahead.f k a b) (gridF a b) := by
  have w1 : wrap64 ((a.length : Int) + 1) = ((a.length + 1 : Nat) : Int) := by rw [wrap64_id (by omega) (by omega)]; omega
  unfold tattingref7_Ahead.f
  refine Ev.bind (turned_is a ha) (Ev.bind (turned_is b hb) (Ev.bind (behind_is a.reverse b.reverse (by rw [List.length_reverse]; exact ha) (by rw [List.length_reverse]; exact hb)) ?_))
  have h := ahd_out a b ha hb (a.length + 1) 0 (by omega)
  unfold tattingref7_AheadT.f
  have e0 : List.replicate (a.length + 1) ([] : List Int) = rowsF a b 0 := by
    rw [rowsF]
    apply List.ext_getElem?
    intro j
    rw [List.getElem?_map, List.getElem?_replicate]
    by_cases hj : j < a.length + 1
    · rw [if_pos hj, List.getElem?_range hj, Option.map_some, if_neg (by omega)]
    · rw [if_neg hj, List.getElem?_eq_none (by simp; omega)]; rfl
  simp only [w1, Int.toNat_natCast, if_pos (show (0 : Int) ≤ ((a.length + 1 : Nat) : Int) by omega), if_pos (show a.length + 1 ≤ 11728124029610 by omega), e0]
  exact h
end Go.Proofs.Ytbbbcdfagmcfgaa.Pure
