/- The rows of bits that the table tells. -/
import Derived.Test.YtahfckadomemiaaPVx4
import Derived.Test.YtahfckadomemiaaPVx7
import Derived.Test.YtahfckadomemiaaAhdT
import Derived.Test.YtahfckadomemiaaZerosCroch
import Derived.Test.YtahfckadomemiaaVecRef2
namespace Go.Proofs.Ytahfckadomemiaa.Pure
open Go Go.RowKit Go.Proofs.Ytahfckadomemiaa.PV Go.Proofs.YtahfckadomemiaaW.PrintWords Go.Proofs.YtahfckadomemiaaW.PrintLast Go.Proofs.Ytahfckadomemiaa.VecMath VecSpec RowSpec Masks Lcs
theorem rem4 (x : Int) : Int.tmod x 4 < 0 → wrap64 (Int.tmod x 4 + 4) = x % 4 := by
  intro h
  have h1 : Int.tmod x 4 = x % 4 ∨ Int.tmod x 4 = x % 4 - 4 := by
    rcases Int.le_total 0 x with h0 | h0
    · rw [Int.tmod_eq_emod_of_nonneg h0]; exact .inl rfl
    · have := Int.tmod_eq_emod (a := x) (b := 4)
      rw [this]
      split <;> simp
  rw [wrap64_id (by omega) (by omega)]
  omega
theorem rem4' (x : Int) : ¬ Int.tmod x 4 < 0 → Int.tmod x 4 = x % 4 := by
  intro h
  have := Int.tmod_eq_emod (a := x) (b := 4)
  rw [this] at h ⊢
  split at h <;> rename_i h2
  · rw [if_pos h2]; simp
  · rw [if_neg h2]; simp at h ⊢; omega
theorem few4_is (l : List Int) (hl : l.length ≤ 200) (hw : ∀ x ∈ l, (Lit.int .i64 x).wf = true) : Ev (fun k => tattingref1_Few.f k l 4) (l.map (· % 4)) := by
  unfold tattingref1_Few.f
  have key : ∀ d i, i + d = l.length → Ev (fun k => tattingref1_Few.l0 k l 4 ((l.take i).map (· % 4)) (i : Int)) (l.map (· % 4)) := by
    intro d
    induction d with
    | zero =>
      intro i hi
      refine Ev.step (fun k => ?_) (Ev.now _)
      simp only [tattingref1_Few.l0]
      rw [if_neg (by omega), List.take_of_length_le (by omega)]
    | succ d ih =>
      intro i hi
      have h := ih (i + 1) (by omega)
      have e : rd l (i : Int) = l[i]'(by omega) := by unfold rd; rw [Int.toNat_natCast, List.getD_eq_getElem?_getD, List.getElem?_eq_getElem (show i < l.length by omega)]; rfl
      have hx : (Lit.int .i64 (rd l (i : Int))).wf = true := by rw [e]; exact hw _ (List.getElem_mem _)
      rw [List.take_succ_eq_append_getElem (show i < l.length by omega), List.map_append, ← e] at h
      have hn : wrap64 ((i : Int) + 1) = ((i + 1 : Nat) : Int) := by rw [wrap64_id (by omega) (by omega)]; omega
      refine Ev.step (f := fun k => tattingref1_Few.l0 k l 4 ((l.take i).map (· % 4) ++ [rd l (i : Int) % 4]) ((i + 1 : Nat) : Int)) (fun k => ?_) h
      simp only [tattingref1_Few.l0]
      rw [if_pos (by omega), if_pos (by omega), if_neg (by decide)]
      have hlen : ((l.take i).map (· % 4)).length < 17592186044416 := by simp; omega
      by_cases h0 : Int.tmod (rd l (i : Int)) 4 < 0
      · rw [if_pos h0, if_pos hlen, rem4 _ h0, hn]
      · rw [if_neg h0, if_pos hlen, rem4' _ h0, hn]
  have := key l.length 0 (by omega)
  simpa using this
theorem wid_nat (j : Nat) (h : j ≤ 1000) : wid (j : Int) = j := by
  unfold wid
  rw [Int.toNat_natCast]
  exact Nat.min_eq_left (by omega)
theorem wf4 (l : List Int) : ∀ x ∈ l.map (· % 4), (Lit.int .i64 x).wf = true := by
  intro x hx
  obtain ⟨y, _, rfl⟩ := List.mem_map.1 hx
  have h1 := Int.emod_nonneg y (show (4 : Int) ≠ 0 by decide)
  have h2 := Int.emod_lt_of_pos y (show (0 : Int) < 4 by decide)
  simp [Lit.wf, IntKind.min, IntKind.max, IntKind.signed, IntKind.bits]
  omega

theorem tab_is (a b : List Int) : ∀ (i j : Nat), i ≤ a.length → j ≤ b.length → tabN a b i j = tabF a b i j
  | 0, j, _, _ => by rw [tabF_zero]; simp [tabN]
  | i + 1, 0, _, _ => by rw [tabF_zero2]; simp [tabN]
  | i + 1, j + 1, hi, hj => by
    rw [tabF_succ a b i j (by omega) (by omega), tabN, tab_is a b i j (by omega) (by omega), tab_is a b i (j + 1) (by omega) hj, tab_is a b (i + 1) j hi (by omega)]
    have e1 : a.getD i 0 = a[i]'(by omega) := by rw [List.getD_eq_getElem?_getD, List.getElem?_eq_getElem (by omega)]; rfl
    have e2 : b.getD j 0 = b[j]'(by omega) := by rw [List.getD_eq_getElem?_getD, List.getElem?_eq_getElem (by omega)]; rfl
    rw [e1, e2]
theorem srows_is (r : List (List Int)) (hr : r.length ≤ 1000) (hl : ∀ x ∈ r, x.length ≤ 100000) : Ev (fun k => tattingref20_SameRows.f k r r) true := by
  unfold tattingref20_SameRows.f
  simp only [if_true]
  have key : ∀ d i, i + d = r.length → Ev (fun k => tattingref20_SameRows.l0 k r r (i : Int)) true := by
    intro d
    induction d with
    | zero =>
      intro i hi
      refine Ev.step (fun k => ?_) (Ev.now _)
      simp only [tattingref20_SameRows.l0]
      rw [if_neg (by omega)]
    | succ d ih =>
      intro i hi
      have h := ih (i + 1) (by omega)
      have e : rd_L2 r (i : Int) = r[i]'(by omega) := by unfold rd_L2; rw [Int.toNat_natCast, List.getD_eq_getElem?_getD, List.getElem?_eq_getElem (show i < r.length by omega)]; rfl
      have hn : wrap64 ((i : Int) + 1) = ((i + 1 : Nat) : Int) := by rw [wrap64_id (by omega) (by omega)]; omega
      refine Ev.step (f := fun k => (tattingref5_Same.f k (rd_L2 r (i : Int)) (rd_L2 r (i : Int))).bind fun t255 => (if t255 = true then (tattingref20_SameRows.l0 k r r ((i + 1 : Nat) : Int)) else (some false))) (fun k => ?_) ?_
      · simp only [tattingref20_SameRows.l0, hn]
        rw [if_pos (by omega), if_pos (by omega), if_pos (by omega)]
      refine Ev.bind (VecRef.Same_eq _ (by rw [e]; have := hl _ (List.getElem_mem (show i < r.length by omega)); omega)) ?_
      simp only [if_true]
      exact h
  exact key r.length 0 (by omega)
/-- A row's bit is 1 just where the table's row stays. -/
theorem row_bit (a b : List Int) (hw : wid (b.length : Int) = b.length) (i j : Nat) (hi : i ≤ a.length) (hj : j < b.length) :
    (stN a b i).testBit j = ((tabF a b i (j + 1) : Int) == (tabF a b i j : Int)) := by
  have h1 := zeros a b hw i j (by omega)
  have h2 : cnt (stN a b i) j + ((stN a b i).testBit j).toNat + tabN a b i (j + 1) = j + 1 := zeros a b hw i (j + 1) (by omega)
  rw [tab_is a b i j hi (by omega)] at h1
  rw [tab_is a b i (j + 1) hi (by omega)] at h2
  cases hb : (stN a b i).testBit j with
  | true =>
    rw [hb] at h2
    simp only [Bool.toNat_true] at h2
    exact (beq_iff_eq.mpr (by omega)).symm
  | false =>
    rw [hb] at h2
    simp only [Bool.toNat_false] at h2
    exact (beq_eq_false_iff_ne.mpr (by omega)).symm
structure Hid (p : Prop) : Prop where
  out : p
theorem rrows_is (a b : List Int) (ha : a.length ≤ 200) (hb : b.length ≤ 200) (hw : wid (b.length : Int) = b.length) : Ev (fun k => tattingref20_Rows.f k a b) (rowsN a b (a.length + 1)) := by
  have HW := Hid.mk hw
  clear hw
  unfold tattingref20_Rows.f
  refine Ev.bind (ahead_is a b (by omega) (by omega)) ?_
  have key : ∀ d e, e + d = a.length + 1 → Ev (fun k => tattingref20_Rows.l0 k a b (gridF a b) (rowsN a b e) (e : Int)) (rowsN a b (a.length + 1)) := by
    intro d
    induction d with
    | zero =>
      intro e he
      obtain rfl : e = a.length + 1 := by omega
      refine Ev.step (fun k => ?_) (Ev.now _)
      simp only [tattingref20_Rows.l0]
      rw [if_neg (by omega)]
    | succ d ih =>
      intro e he
      have h := ih (e + 1) (by omega)
      have hge : rd_L3 (gridF a b) (e : Int) = rowF a b e := by rw [rdL_nat]; exact gridF_get a b e (by omega)
      have hgl := gridF_len a b
      have hrl := rowF_len a b e
      have hn : wrap64 ((e : Int) + 1) = ((e + 1 : Nat) : Int) := by rw [wrap64_id (by omega) (by omega)]; omega
      have inner : Ev (fun k => tattingref20_Rows.l1 k a b (gridF a b) (rowsN a b e) (e : Int) (List.replicate b.length false) 0) (rowsN a b (a.length + 1)) := by
        refine fillE (fun k z (_ : Unit) j => tattingref20_Rows.l1 k a b (gridF a b) (rowsN a b e) (e : Int) z j) b.length (fun _ => ()) (fun j => rd (rowF a b e) ((j + 1 : Nat) : Int) == rd (rowF a b e) (j : Int)) _ ?_ ?_ _ (by simp)
        · intro z j hj hz hh
          have hn2 : wrap64 ((j : Int) + 1) = ((j + 1 : Nat) : Int) := by rw [wrap64_id (by omega) (by omega)]; omega
          refine Ev.step (fun k => ?_) hh
          simp only [tattingref20_Rows.l1, hge, hn2, Int.toNat_natCast, hgl, hrl, hz]
          rw [if_pos (by omega), if_pos (by omega), if_pos (by omega), if_pos (by omega), if_pos (by omega), if_pos (by omega), if_pos (by omega), if_pos (by omega)]
          rfl
        · have e2 : (List.range b.length).map (fun j => rd (rowF a b e) ((j + 1 : Nat) : Int) == rd (rowF a b e) (j : Int)) = bitsOf (stN a b e) b.length := by
            unfold bitsOf
            apply List.map_congr_left
            intro j hj
            have hj' := List.mem_range.1 hj
            rw [row_bit a b HW.out e j (by omega) hj', rd_nat, rd_nat, rowF_get a b e (j + 1) (by omega), rowF_get a b e j (by omega)]
          rw [e2]
          have hL := VecRef.Laid_is (stN a b e) b.length (wds (b.length : Int)) (by omega) (Nat.le_trans (wds_le _) (by decide))
          have hv : stN a b e % 2 ^ b.length = stN a b e := Nat.mod_eq_of_lt (by have := stN_lt a b e; rw [HW.out] at this; exact this)
          rw [hv] at hL
          refine Ev.step (f := fun k => (tattingref5_Words.f (b.length : Int)).bind fun t270 => ((tattingref5_Laid.f k (bitsOf (stN a b e) b.length) t270).bind fun t271 => (if (rowsN a b e).length < 5864062014805 then (tattingref20_Rows.l0 k a b (gridF a b) (rowsN a b e ++ [t271]) ((e + 1 : Nat) : Int)) else (none)))) (fun k => ?_) ?_
          · simp only [tattingref20_Rows.l1, hn]
            rw [if_neg (by omega)]
          simp only [VecRef2.Words_is, Option.bind_some]
          refine Ev.bind hL ?_
          simp only [if_pos (show (rowsN a b e).length < 5864062014805 by rw [rowsN_len]; omega), rowsN_succ]
          exact h
      refine Ev.step (f := fun k => tattingref20_Rows.l1 k a b (gridF a b) (rowsN a b e) (e : Int) (List.replicate b.length false) 0) (fun k => ?_) inner
      simp only [tattingref20_Rows.l0, Int.toNat_natCast]
      rw [if_pos (by omega), if_pos (by omega), if_pos (by omega)]
  exact key (a.length + 1) 0 (by omega)
theorem rowsN_le (a b : List Int) (n : Nat) : ∀ z ∈ rowsN a b n, z.length ≤ 100000 := by
  intro z hz
  obtain ⟨i, _, rfl⟩ := List.mem_map.1 hz
  rw [lay_length]
  have := wds_le (b.length : Int)
  omega
end Go.Proofs.Ytahfckadomemiaa.Pure
