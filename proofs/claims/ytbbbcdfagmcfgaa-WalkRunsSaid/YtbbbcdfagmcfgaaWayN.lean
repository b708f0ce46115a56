/- The way back through the table: plain laws. -/
import Derived.Test.YtbbbcdfagmcfgaaLcsN
import Derived.Test.YtbbbcdfagmcfgaaLcsT
import Derived.Test.YtbbbcdfagmcfgaaAeB
namespace Go.Proofs.Ytbbbcdfagmcfgaa.WayN
open Go.Proofs.Ytbbbcdfagmcfgaa Go.Proofs.Ytbbbcdfagmcfgaa.AE Go.Proofs.Ytbbbcdfagmcfgaa.VecMath Go.Proofs.Ytbbbcdfagmcfgaa.RowSpec Go.Proofs.Ytbbbcdfagmcfgaa.Lcs
set_option linter.unusedVariables false
/-- The row of bits behind i numbers, as a number. -/
def stM (a b : List Int) : Nat → Nat
  | 0 => 2 ^ b.length - 1
  | i + 1 => rowN (stM a b i) (mkB b (a.getD i 0) b.length) b.length
theorem stM_lt (a b : List Int) : ∀ i, stM a b i < 2 ^ b.length
  | 0 => by have := Nat.two_pow_pos b.length; unfold stM; omega
  | i + 1 => rowN_lt _ _ _
theorem mkbB (b : List Int) (y : Int) : ∀ j i, (mkB b y j).testBit i = (decide (i < j) && (b.getD i 0 == y))
  | 0, i => by simp [mkB]
  | j + 1, i => by
    unfold mkB
    by_cases e : b.getD j 0 = y
    · rw [if_pos e, Nat.testBit_or, mkbB b y j i]
      by_cases h : i = j
      · subst h; rw [e]; simp
      · rw [Nat.testBit_two_pow_of_ne (by omega), Bool.or_false]
        congr 1
        simp; omega
    · rw [if_neg e, mkbB b y j i]
      by_cases h : i = j
      · subst h; rw [show (b.getD i 0 == y) = false from beq_eq_false_iff_ne.mpr e]; simp
      · congr 1
        simp; omega
theorem zerosM (a b : List Int) : ∀ i j, j ≤ b.length → cnt (stM a b i) j + tabN a b i j = j
  | 0, j, h => by
    unfold stM
    rw [cnt_ones _ j h]
    simp [tabN]
  | i + 1, j, h => by
    have hv : stM a b i % 2 ^ b.length = stM a b i := Nat.mod_eq_of_lt (stM_lt a b i)
    have h1 := cnt_row (stM a b i) (mkB b (a.getD i 0) b.length) b.length j h
    have h2 := tab_step a b i b.length (stM a b i) (mkB b (a.getD i 0) b.length) (fun j hj => by rw [low_bit _ _ _ hj, mkbB]; simp [hj]) (fun j hj => by rw [hv]; exact zerosM a b i j hj) j h
    have h3 := zerosM a b i j h
    rw [hv] at h1
    rw [hv] at h2
    show cnt (rowN (stM a b i) (mkB b (a.getD i 0) b.length) b.length) j + _ = j
    rw [h2]
    omega
theorem tab_isM (a b : List Int) : ∀ (i j : Nat), i ≤ a.length → j ≤ b.length → tabN a b i j = tabF a b i j
  | 0, j, _, _ => by rw [tabF_zero]; simp [tabN]
  | i + 1, 0, _, _ => by rw [tabF_zero2]; simp [tabN]
  | i + 1, j + 1, hi, hj => by
    rw [tabF_succ a b i j (by omega) (by omega), tabN, tab_isM a b i j (by omega) (by omega), tab_isM a b i (j + 1) (by omega) hj, tab_isM a b (i + 1) j hi (by omega)]
    have e1 : a.getD i 0 = a[i]'(by omega) := by rw [List.getD_eq_getElem?_getD, List.getElem?_eq_getElem (by omega)]; rfl
    have e2 : b.getD j 0 = b[j]'(by omega) := by rw [List.getD_eq_getElem?_getD, List.getElem?_eq_getElem (by omega)]; rfl
    rw [e1, e2]
theorem bitM (a b : List Int) (i j : Nat) (hi : i ≤ a.length) (hj : j < b.length) : (stM a b i).testBit j = decide (tabF a b i (j + 1) = tabF a b i j) := by
  have h1 := zerosM a b i j (by omega)
  have h2 : cnt (stM a b i) j + ((stM a b i).testBit j).toNat + tabN a b i (j + 1) = j + 1 := zerosM a b i (j + 1) (by omega)
  rw [tab_isM a b i j hi (by omega)] at h1
  rw [tab_isM a b i (j + 1) hi (by omega)] at h2
  cases hb : (stM a b i).testBit j with
  | true =>
    rw [hb] at h2
    simp only [Bool.toNat_true] at h2
    exact (decide_eq_true (by omega)).symm
  | false =>
    rw [hb] at h2
    simp only [Bool.toNat_false] at h2
    exact (decide_eq_false (by omega)).symm
/-- The way back: the pairs, the last one first. -/
def way (a b : List Int) : Nat → Nat → List (Int × Int)
  | 0, _ => []
  | _ + 1, 0 => []
  | i + 1, j + 1 => if tabF a b (i + 1) (j + 1) = tabF a b (i + 1) j then way a b (i + 1) j else if a.getD i 0 = b.getD j 0 then ((i : Int), (j : Int)) :: way a b i j else way a b i (j + 1)
termination_by i j => i + j
theorem way_zero (a b : List Int) (j : Nat) : way a b 0 j = [] := by rw [way]
theorem way_zero2 (a b : List Int) (i : Nat) : way a b i 0 = [] := by cases i <;> rw [way]
theorem way_up (a b : List Int) (i j : Nat) (h : tabF a b (i + 1) (j + 1) = tabF a b (i + 1) j) : way a b (i + 1) (j + 1) = way a b (i + 1) j := by rw [way, if_pos h]
theorem way_hit (a b : List Int) (i j : Nat) (h : ¬ tabF a b (i + 1) (j + 1) = tabF a b (i + 1) j) (e : a.getD i 0 = b.getD j 0) : way a b (i + 1) (j + 1) = ((i : Int), (j : Int)) :: way a b i j := by rw [way, if_neg h, if_pos e]
theorem way_down (a b : List Int) (i j : Nat) (h : ¬ tabF a b (i + 1) (j + 1) = tabF a b (i + 1) j) (e : ¬ a.getD i 0 = b.getD j 0) : way a b (i + 1) (j + 1) = way a b i (j + 1) := by rw [way, if_neg h, if_neg e]
theorem way_len (a b : List Int) : ∀ (d i j : Nat), i + j ≤ d → i ≤ a.length → j ≤ b.length → (way a b i j).length = tabF a b i j
  | d, 0, j, _, _, _ => by rw [way_zero, tabF_zero]; rfl
  | d, i + 1, 0, _, _, _ => by rw [way_zero2, tabF_zero2]; rfl
  | 0, i + 1, j + 1, h, _, _ => by omega
  | d + 1, i + 1, j + 1, h, hi, hj => by
    have e1 : a.getD i 0 = a[i]'(by omega) := by rw [List.getD_eq_getElem?_getD, List.getElem?_eq_getElem (by omega)]; rfl
    have e2 : b.getD j 0 = b[j]'(by omega) := by rw [List.getD_eq_getElem?_getD, List.getElem?_eq_getElem (by omega)]; rfl
    have hs := tabF_succ a b i j (by omega) (by omega)
    rw [← e1, ← e2] at hs
    by_cases c : tabF a b (i + 1) (j + 1) = tabF a b (i + 1) j
    · rw [way_up a b i j c, way_len a b d (i + 1) j (by omega) hi (by omega), c]
    · by_cases e : a.getD i 0 = b.getD j 0
      · rw [way_hit a b i j c e, List.length_cons, way_len a b d i j (by omega) (by omega) (by omega), hs, if_pos e]
      · rw [way_down a b i j c e, way_len a b d i (j + 1) (by omega) (by omega) hj]
        rw [if_neg e] at hs
        omega
theorem way_mem (a b : List Int) : ∀ (d i j : Nat), i + j ≤ d → i ≤ a.length → j ≤ b.length → ∀ q ∈ way a b i j, 0 ≤ q.1 ∧ q.1 < (i : Int) ∧ 0 ≤ q.2 ∧ q.2 < (j : Int) ∧ a.getD q.1.toNat 0 = b.getD q.2.toNat 0
  | d, 0, j, _, _, _, q, hq => by rw [way_zero] at hq; cases hq
  | d, i + 1, 0, _, _, _, q, hq => by rw [way_zero2] at hq; cases hq
  | 0, i + 1, j + 1, h, _, _, q, hq => by omega
  | d + 1, i + 1, j + 1, h, hi, hj, q, hq => by
    by_cases c : tabF a b (i + 1) (j + 1) = tabF a b (i + 1) j
    · rw [way_up a b i j c] at hq
      have := way_mem a b d (i + 1) j (by omega) hi (by omega) q hq
      omega
    · by_cases e : a.getD i 0 = b.getD j 0
      · rw [way_hit a b i j c e] at hq
        rcases List.mem_cons.1 hq with rfl | hq
        · exact ⟨by simp, by simp; omega, by simp, by simp; omega, by simpa using e⟩
        · have := way_mem a b d i j (by omega) (by omega) (by omega) q hq
          omega
      · rw [way_down a b i j c e] at hq
        have := way_mem a b d i (j + 1) (by omega) (by omega) hj q hq
        omega
/-- A list is good. -/
def goodW (x y : List Int) : Int → Int → List (Int × Int) → Bool
  | _, _, [] => true
  | li, lj, p :: l => decide (0 ≤ p.1) && (decide (p.1 < (x.length : Int)) && (decide (0 ≤ p.2) && (decide (p.2 < (y.length : Int)) && (decide (x.getD p.1.toNat 0 = y.getD p.2.toNat 0) && (decide (li < p.1) && (decide (lj < p.2) && goodW x y p.1 p.2 l))))))
theorem good_snoc (x y : List Int) (p : Int × Int) (h1 : 0 ≤ p.1) (h2 : p.1 < (x.length : Int)) (h3 : 0 ≤ p.2) (h4 : p.2 < (y.length : Int)) (h5 : x.getD p.1.toNat 0 = y.getD p.2.toNat 0) : ∀ (l : List (Int × Int)) (li lj : Int), goodW x y li lj l = true → li < p.1 → lj < p.2 → (∀ q ∈ l, q.1 < p.1 ∧ q.2 < p.2) → goodW x y li lj (l ++ [p]) = true
  | [], li, lj, _, hi, hj, _ => by
    simp only [List.nil_append, goodW, decide_eq_true h1, decide_eq_true h2, decide_eq_true h3, decide_eq_true h4, decide_eq_true h5, decide_eq_true hi, decide_eq_true hj, Bool.and_self]
  | q :: l, li, lj, hg, hi, hj, hm => by
    rw [List.cons_append]
    unfold goodW at hg ⊢
    simp only [Bool.and_eq_true] at hg ⊢
    obtain ⟨k1, k2, k3, k4, k5, k6, k7, k8⟩ := hg
    have hq := hm q (List.mem_cons_self ..)
    exact ⟨k1, k2, k3, k4, k5, k6, k7, good_snoc x y p h1 h2 h3 h4 h5 l q.1 q.2 k8 hq.1 hq.2 (fun r hr => hm r (List.mem_cons_of_mem _ hr))⟩
theorem way_good (a b : List Int) : ∀ (d i j : Nat), i + j ≤ d → i ≤ a.length → j ≤ b.length → goodW a b (-1) (-1) (way a b i j).reverse = true
  | d, 0, j, _, _, _ => by rw [way_zero]; rfl
  | d, i + 1, 0, _, _, _ => by rw [way_zero2]; rfl
  | 0, i + 1, j + 1, h, _, _ => by omega
  | d + 1, i + 1, j + 1, h, hi, hj => by
    by_cases c : tabF a b (i + 1) (j + 1) = tabF a b (i + 1) j
    · rw [way_up a b i j c]; exact way_good a b d (i + 1) j (by omega) hi (by omega)
    · by_cases e : a.getD i 0 = b.getD j 0
      · rw [way_hit a b i j c e, List.reverse_cons]
        refine good_snoc a b ((i : Int), (j : Int)) (by simp) (by simp; omega) (by simp) (by simp; omega) (by simpa using e) _ _ _ (way_good a b d i j (by omega) (by omega) (by omega)) (by simp; omega) (by simp; omega) fun q hq => ?_
        have := way_mem a b _ i j (Nat.le_refl _) (by omega) (by omega) q (List.mem_reverse.1 hq)
        exact ⟨this.2.1, this.2.2.2.1⟩
      · rw [way_down a b i j c e]; exact way_good a b d i (j + 1) (by omega) (by omega) hj
theorem way_le (a b : List Int) (i j : Nat) (hi : i ≤ a.length) (hj : j ≤ b.length) : (way a b i j).length ≤ i := by
  rw [way_len a b _ i j (Nat.le_refl _) hi hj]
  unfold tabF
  have := lcs_le (a.take i).reverse (b.take j).reverse
  rw [List.length_reverse, List.length_take] at this
  omega
end Go.Proofs.Ytbbbcdfagmcfgaa.WayN
