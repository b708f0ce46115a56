/- With one number more there are, up to each place, as many zeros or one more (CrochMonotone). -/
import Derived.Test.YtahfckadomemiaaPVx7
import Derived.Test.YtahfckadomemiaaRowCroch
import Derived.Test.YtahfckadomemiaaCarMono
import Derived.Test.YtahfckadomemiaaVecRef2
import Derived.Test.YtahfckadomemiaaAwakeM
import Derived.Test.YtahfckadomemiaaMaskRowsCroch
namespace Go.Proofs.Ytahfckadomemiaa.Pure
open Go.RowKit Go.Proofs.Ytahfckadomemiaa.PV Go.Proofs.YtahfckadomemiaaW.PrintWords Go.Proofs.YtahfckadomemiaaW.PrintLast Go.Proofs.Ytahfckadomemiaa.VecMath VecSpec RowSpec Masks

theorem rem3 (x : Int) : Int.tmod x 3 < 0 → wrap64 (Int.tmod x 3 + 3) = x % 3 := by
  intro h
  have h1 : Int.tmod x 3 = x % 3 ∨ Int.tmod x 3 = x % 3 - 3 := by
    rcases Int.le_total 0 x with h0 | h0
    · rw [Int.tmod_eq_emod_of_nonneg h0]; exact .inl rfl
    · have := Int.tmod_eq_emod (a := x) (b := 3)
      rw [this]
      split <;> simp
  rw [wrap64_id (by omega) (by omega)]
  omega
theorem rem3' (x : Int) : ¬ Int.tmod x 3 < 0 → Int.tmod x 3 = x % 3 := by
  intro h
  have := Int.tmod_eq_emod (a := x) (b := 3)
  rw [this] at h ⊢
  split at h <;> rename_i h2
  · rw [if_pos h2]; simp
  · rw [if_neg h2]; simp at h ⊢; omega
theorem few_is (l : List Int) (hl : l.length ≤ 200) (hw : ∀ x ∈ l, (Lit.int .i64 x).wf = true) : Ev (fun k => tattingref1_Few.f k l 3) (l.map (· % 3)) := by
  unfold tattingref1_Few.f
  have key : ∀ d i, i + d = l.length → Ev (fun k => tattingref1_Few.l0 k l 3 ((l.take i).map (· % 3)) (i : Int)) (l.map (· % 3)) := by
    intro d
    induction d with
    | zero =>
      intro i hi
      refine Ev.step (fun k => ?_) (Ev.now _)
      simp only [tattingref1_Few.l0]
      rw [if_neg (by omega), List.take_of_length_le (by omega)]
    | succ d ih =>
      intro i hi
      have h := ih (i + 1) (by omega)
      have e : rd l (i : Int) = l[i]'(by omega) := by unfold rd; rw [Int.toNat_natCast, List.getD_eq_getElem?_getD, List.getElem?_eq_getElem (show i < l.length by omega)]; rfl
      have hx : (Lit.int .i64 (rd l (i : Int))).wf = true := by rw [e]; exact hw _ (List.getElem_mem _)
      rw [List.take_succ_eq_append_getElem (show i < l.length by omega), List.map_append, ← e] at h
      have hn : wrap64 ((i : Int) + 1) = ((i + 1 : Nat) : Int) := by rw [wrap64_id (by omega) (by omega)]; omega
      refine Ev.step (f := fun k => tattingref1_Few.l0 k l 3 ((l.take i).map (· % 3) ++ [rd l (i : Int) % 3]) ((i + 1 : Nat) : Int)) (fun k => ?_) h
      simp only [tattingref1_Few.l0]
      rw [if_pos (by omega), if_pos (by omega), if_neg (by decide)]
      have hlen : ((l.take i).map (· % 3)).length < 17592186044416 := by simp; omega
      by_cases h0 : Int.tmod (rd l (i : Int)) 3 < 0
      · rw [if_pos h0, if_pos hlen, rem3 _ h0, hn]
      · rw [if_neg h0, if_pos hlen, rem3' _ h0, hn]
  have := key l.length 0 (by omega)
  simpa using this
theorem mk_bit (b : List Int) (y : Int) : ∀ j i, (mk b y j).testBit i = (decide (i < j) && (b.getD i 0 == y))
  | 0, i => by simp [mk]
  | j + 1, i => by
    unfold mk
    by_cases e : b.getD j 0 = y
    · rw [if_pos e, Nat.testBit_or, mk_bit b y j i]
      by_cases h : i = j
      · subst h; rw [e]; simp
      · rw [Nat.testBit_two_pow_of_ne (by omega), Bool.or_false]
        congr 1
        simp; omega
    · rw [if_neg e, mk_bit b y j i]
      by_cases h : i = j
      · subst h; rw [show (b.getD i 0 == y) = false from beq_eq_false_iff_ne.mpr e]; simp
      · congr 1
        simp; omega
theorem mask_ref (b : List Int) (y : Int) (hb : b.length ≤ 200) : Ev (fun k => tattingref5_Mask.f k b y) (lay (mk b y b.length % 2 ^ b.length) (wds (b.length : Int))) := by
  unfold tattingref5_Mask.f
  simp only [Int.toNat_natCast, if_pos (Int.natCast_nonneg b.length), if_pos (show b.length ≤ 281474976710656 by omega)]
  refine fillE (fun k z (_ : Unit) i => tattingref5_Mask.l0 k b y z i) b.length (fun _ => ()) (fun i => b.getD i 0 == y) _ ?_ ?_ _ (by simp)
  · intro z i hi hz h
    refine Ev.step (fun k => ?_) h
    simp only [tattingref5_Mask.l0]
    rw [if_pos (by omega), if_pos (by omega), if_pos (by omega), wrap64_id (by omega) (by omega), Int.toNat_natCast]
    rfl
  · have e : (List.range b.length).map (fun i => b.getD i 0 == y) = bitsOf (mk b y b.length) b.length := by
      unfold bitsOf
      apply List.map_congr_left
      intro i hi
      rw [mk_bit]
      have := List.mem_range.1 hi
      simp [this]
    rw [e]
    have h := VecRef.Laid_is (mk b y b.length) b.length (wds (b.length : Int)) (by omega) (by have := wds_le (b.length : Int); omega)
    refine Ev.step (f := fun k => (tattingref5_Words.f (b.length : Int)).bind fun t351 => ((tattingref5_Laid.f k (bitsOf (mk b y b.length) b.length) t351).bind fun t352 => (some t352))) (fun k => ?_) ?_
    · simp only [tattingref5_Mask.l0]
      rw [if_neg (by omega)]
    simp only [VecRef2.Words_is, Option.bind_some]
    exact Ev.bind h (Ev.now _)
theorem wid_nat (j : Nat) (h : j ≤ 1000) : wid (j : Int) = j := by
  unfold wid
  rw [Int.toNat_natCast]
  exact Nat.min_eq_left (by omega)
theorem loop_is (B x10 x11 : List Int) (hB : B.length ≤ 200) (h10 : OK x10) (h11 : OK x11)
    (hc : ∀ j, j ≤ B.length → cnt (val x11) j ≤ cnt (val x10) j ∧ cnt (val x10) j ≤ cnt (val x11) j + 1) : Ev (fun k => tattinglaw21_CrochMonotone.l0 k B x10 x11 0) true := by
  have key : ∀ d j, j + d = B.length + 1 → Ev (fun k => tattinglaw21_CrochMonotone.l0 k B x10 x11 (j : Int)) true := by
    intro d
    induction d with
    | zero =>
      intro j hj
      refine Ev.step (fun k => ?_) (Ev.now _)
      simp only [tattinglaw21_CrochMonotone.l0]
      rw [if_neg (by omega)]
    | succ d ih =>
      intro j hj
      have h := ih (j + 1) (by omega)
      have c1 := VecRef2.Count_is x10 (j : Int) h10
      have c2 := VecRef2.Count_is x11 (j : Int) h11
      rw [wid_nat j (by omega)] at c1 c2
      have hcj := hc j (by omega)
      have l1 := cnt_le (val x10) j
      have l2 := cnt_le (val x11) j
      refine Ev.step (f := fun k => (tattingref5_Count.f k x10 (j : Int)).bind fun t381 => ((tattingref5_Count.f k x11 (j : Int)).bind fun t382 => (if (wrap64 ((j : Int) - t382)) < (wrap64 ((j : Int) - t381)) then (some false) else (if (wrap64 ((j : Int) - t382)) > (wrap64 ((wrap64 ((j : Int) - t381)) + 1)) then (some false) else (tattinglaw21_CrochMonotone.l0 k B x10 x11 ((j + 1 : Nat) : Int)))))) (fun k => ?_) ?_
      · simp only [tattinglaw21_CrochMonotone.l0]
        rw [if_pos (by omega), show wrap64 ((j : Int) + 1) = ((j + 1 : Nat) : Int) from by rw [wrap64_id (by omega) (by omega)]; omega]
      refine Ev.bind c1 (Ev.bind c2 ?_)
      generalize cnt (val x10) j = p at *
      generalize cnt (val x11) j = q at *
      have e1 : wrap64 ((j : Int) - (q : Int)) = (j : Int) - q := wrap64_id (by omega) (by omega)
      have e2 : wrap64 ((j : Int) - (p : Int)) = (j : Int) - p := wrap64_id (by omega) (by omega)
      have e3 : wrap64 ((j : Int) - p + 1) = (j : Int) - p + 1 := wrap64_id (by omega) (by omega)
      simp only [e1, e2, e3]
      simp only [if_neg (show ¬ (j : Int) - q < (j : Int) - p by omega), if_neg (show ¬ (j : Int) - q > (j : Int) - p + 1 by omega)]
      exact h
  exact key (B.length + 1) 0 (by omega)
theorem wf3 (l : List Int) : ∀ x ∈ l.map (· % 3), (Lit.int .i64 x).wf = true := by
  intro x hx
  obtain ⟨y, _, rfl⟩ := List.mem_map.1 hx
  have h1 := Int.emod_nonneg y (show (3 : Int) ≠ 0 by decide)
  have h2 := Int.emod_lt_of_pos y (show (0 : Int) < 3 by decide)
  simp [Lit.wf, IntKind.min, IntKind.max, IntKind.signed, IntKind.bits]
  omega

theorem CrochMonotone : tattinglaw21_CrochMonotone.Pure := by
  intro a b x ha1 ha2 ha3 hb1 hb2 hb3 hx
  clear ha1 ha2 hb1 hb2
  refine Ev.rounds ?_
  unfold tattinglaw21_CrochMonotone.f
  refine Ev.bind AwakeM.awake_is ?_
  simp only [if_true]
  have many : Ev (fun k => tattinglaw21_CrochMonotone.j0 k a b x true) true := by
    refine Ev.step (fun k => ?_) (Ev.now _)
    simp only [tattinglaw21_CrochMonotone.j0]
    rfl
  by_cases h1 : (a.length : Int) > 40
  · simp only [if_pos h1]
    exact many
  · simp only [if_neg h1]
    by_cases h2 : (b.length : Int) > 130
    · simp only [decide_eq_true h2]
      exact many
    · simp only [decide_eq_false h2]
      clear many
      have hA : (a.map (· % 3)).length = a.length := List.length_map _
      have hB : (b.map (· % 3)).length = b.length := List.length_map _
      have wA := wf3 a
      have wB := wf3 b
      have fA := few_is a (by omega) ha3
      have fB := few_is b (by omega) hb3
      generalize a.map (· % 3) = A at *
      generalize b.map (· % 3) = B at *
      have hG : Grd A B := ⟨by omega, by omega, wA, wB⟩
      have hR : Ev (fun k => croch_Rows.f k A B) (rowsN A B (A.length + 1)) := by
        unfold croch_Rows.f
        simp only [if_pos hG]
        exact Ev.now _
      refine Ev.step (f := fun k => (tattingref1_Few.f k a 3).bind fun t358 => ((tattingref1_Few.f k b 3).bind fun t361 => ((croch_Rows.f k t358 t361).bind fun t364 => (if (t364.length : Int) = (wrap64 ((t358.length : Int) + 1)) then (if 0 ≤ (t358.length : Int) then (if (t358.length : Int) < (t364.length : Int) then ((tattingref1_Few.f k (([x] : List Int)) 3).bind fun t371 => (if 0 < (t371.length : Int) then ((tattingref5_Mask.f k t361 (rd t371 0)).bind fun t375 => ((croch_Row.f k (rd_L2 t364 (t358.length : Int)) t375 (t361.length : Int)).bind fun t378 => (tattinglaw21_CrochMonotone.l0 k t361 (rd_L2 t364 (t358.length : Int)) t378 0))) else (none))) else (none)) else (none)) else (some false))))) (fun k => ?_) ?_
      · simp only [tattinglaw21_CrochMonotone.j0]
        rfl
      refine Ev.bind fA (Ev.bind fB (Ev.bind hR ?_))
      have e0 : wrap64 ((A.length : Int) + 1) = (A.length : Int) + 1 := wrap64_id (by omega) (by omega)
      simp only [rowsN_len, e0, if_pos (show ((A.length + 1 : Nat) : Int) = (A.length : Int) + 1 by omega), if_pos (Int.natCast_nonneg A.length), if_pos (show (A.length : Int) < ((A.length + 1 : Nat) : Int) by omega)]
      refine Ev.bind (few_is [x] (by simp) (by intro y hy; rw [List.mem_singleton.1 hy]; exact hx)) ?_
      have e1 : rd_L2 (rowsN A B (A.length + 1)) (A.length : Int) = lay (stN A B A.length) (wds (B.length : Int)) := rowsN_get A B _ _ (by omega) []
      have e2 : rd ([x].map (· % 3)) 0 = x % 3 := rfl
      simp only [e1, e2, if_pos (show (0 : Int) < (([x].map (· % 3)).length : Int) by simp)]
      refine Ev.bind (mask_ref B (x % 3) (by omega)) ?_
      refine Ev.bind (croch_is _ _ _ (lay_OK _ _) (lay_OK _ _)) ?_
      refine loop_is B _ _ (by omega) (lay_OK _ _) (lay_OK _ _) (fun j hj => ?_)
      have hw := wid_nat B.length (by omega)
      have hwd := wid_wds (B.length : Int)
      generalize val (lay (mk B (x % 3) B.length % 2 ^ B.length) (wds (B.length : Int))) = U
      generalize val (lay (stN A B A.length) (wds (B.length : Int))) = V
      rw [val_lay_lt (Nat.lt_of_lt_of_le (rowN_lt V U _) (Nat.pow_le_pow_right (by decide) hwd)), hw]
      have h3 := cnt_row V U B.length j hj
      have h4 : cnt V j = cnt (V % 2 ^ B.length) j := cnt_congr j (fun i hi => (low_bit V B.length i (by omega)).symm)
      rw [h4, h3]
      cases decide (car (V % 2 ^ B.length) (V % 2 ^ B.length &&& U % 2 ^ B.length) (2 ^ j) = 1) <;> simp
end Go.Proofs.Ytahfckadomemiaa.Pure
