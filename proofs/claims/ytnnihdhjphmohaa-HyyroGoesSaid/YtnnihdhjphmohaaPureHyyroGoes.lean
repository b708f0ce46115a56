/- The rows of a list, of its beginning, and what the last one tells (HyyroGoes). -/
import Derived.Test.YtnnihdhjphmohaaPVx6
import Derived.Test.YtnnihdhjphmohaaRowHyyro
import Derived.Test.YtnnihdhjphmohaaZerosHyyro
import Derived.Test.YtnnihdhjphmohaaVecRef2
import Derived.Test.YtnnihdhjphmohaaAwakeM
namespace Go.Proofs.Ytnnihdhjphmohaa.Pure
open Go Go.RowKit Go.Proofs.Ytnnihdhjphmohaa.PV Go.Proofs.YtnnihdhjphmohaaW.PrintWords Go.Proofs.YtnnihdhjphmohaaW.PrintLast Go.Proofs.Ytnnihdhjphmohaa.VecMath VecSpec RowSpec Masks

theorem rem3 (x : Int) : Int.tmod x 3 < 0 → wrap64 (Int.tmod x 3 + 3) = x % 3 := by
  intro h
  have h1 : Int.tmod x 3 = x % 3 ∨ Int.tmod x 3 = x % 3 - 3 := by
    rcases Int.le_total 0 x with h0 | h0
    · rw [Int.tmod_eq_emod_of_nonneg h0]; exact .inl rfl
    · have := Int.tmod_eq_emod (a := x) (b := 3)
      rw [this]
      split <;> simp
  rw [wrap64_id (by omega) (by omega)]
  omega
theorem rem3' (x : Int) : ¬ Int.tmod x 3 < 0 → Int.tmod x 3 = x % 3 := by
  intro h
  have := Int.tmod_eq_emod (a := x) (b := 3)
  rw [this] at h ⊢
  split at h <;> rename_i h2
  · rw [if_pos h2]; simp
  · rw [if_neg h2]; simp at h ⊢; omega
theorem few_is (l : List Int) (hl : l.length ≤ 200) (hw : ∀ x ∈ l, (Lit.int .i64 x).wf = true) : Ev (fun k => tattingref1_Few.f k l 3) (l.map (· % 3)) := by
  unfold tattingref1_Few.f
  have key : ∀ d i, i + d = l.length → Ev (fun k => tattingref1_Few.l0 k l 3 ((l.take i).map (· % 3)) (i : Int)) (l.map (· % 3)) := by
    intro d
    induction d with
    | zero =>
      intro i hi
      refine Ev.step (fun k => ?_) (Ev.now _)
      simp only [tattingref1_Few.l0]
      rw [if_neg (by omega), List.take_of_length_le (by omega)]
    | succ d ih =>
      intro i hi
      have h := ih (i + 1) (by omega)
      have e : rd l (i : Int) = l[i]'(by omega) := by unfold rd; rw [Int.toNat_natCast, List.getD_eq_getElem?_getD, List.getElem?_eq_getElem (show i < l.length by omega)]; rfl
      have hx : (Lit.int .i64 (rd l (i : Int))).wf = true := by rw [e]; exact hw _ (List.getElem_mem _)
      rw [List.take_succ_eq_append_getElem (show i < l.length by omega), List.map_append, ← e] at h
      have hn : wrap64 ((i : Int) + 1) = ((i + 1 : Nat) : Int) := by rw [wrap64_id (by omega) (by omega)]; omega
      refine Ev.step (f := fun k => tattingref1_Few.l0 k l 3 ((l.take i).map (· % 3) ++ [rd l (i : Int) % 3]) ((i + 1 : Nat) : Int)) (fun k => ?_) h
      simp only [tattingref1_Few.l0]
      rw [if_pos (by omega), if_pos (by omega), if_neg (by decide)]
      have hlen : ((l.take i).map (· % 3)).length < 17592186044416 := by simp; omega
      by_cases h0 : Int.tmod (rd l (i : Int)) 3 < 0
      · rw [if_pos h0, if_pos hlen, rem3 _ h0, hn]
      · rw [if_neg h0, if_pos hlen, rem3' _ h0, hn]
  have := key l.length 0 (by omega)
  simpa using this
theorem mk_bit (b : List Int) (y : Int) : ∀ j i, (mk b y j).testBit i = (decide (i < j) && (b.getD i 0 == y))
  | 0, i => by simp [mk]
  | j + 1, i => by
    unfold mk
    by_cases e : b.getD j 0 = y
    · rw [if_pos e, Nat.testBit_or, mk_bit b y j i]
      by_cases h : i = j
      · subst h; rw [e]; simp
      · rw [Nat.testBit_two_pow_of_ne (by omega), Bool.or_false]
        congr 1
        simp; omega
    · rw [if_neg e, mk_bit b y j i]
      by_cases h : i = j
      · subst h; rw [show (b.getD i 0 == y) = false from beq_eq_false_iff_ne.mpr e]; simp
      · congr 1
        simp; omega
theorem mask_ref (b : List Int) (y : Int) (hb : b.length ≤ 200) : Ev (fun k => tattingref5_Mask.f k b y) (lay (mk b y b.length % 2 ^ b.length) (wds (b.length : Int))) := by
  unfold tattingref5_Mask.f
  simp only [Int.toNat_natCast, if_pos (Int.natCast_nonneg b.length), if_pos (show b.length ≤ 281474976710656 by omega)]
  refine fillE (fun k z (_ : Unit) i => tattingref5_Mask.l0 k b y z i) b.length (fun _ => ()) (fun i => b.getD i 0 == y) _ ?_ ?_ _ (by simp)
  · intro z i hi hz h
    refine Ev.step (fun k => ?_) h
    simp only [tattingref5_Mask.l0]
    rw [if_pos (by omega), if_pos (by omega), if_pos (by omega), wrap64_id (by omega) (by omega), Int.toNat_natCast]
    rfl
  · have e : (List.range b.length).map (fun i => b.getD i 0 == y) = bitsOf (mk b y b.length) b.length := by
      unfold bitsOf
      apply List.map_congr_left
      intro i hi
      rw [mk_bit]
      have := List.mem_range.1 hi
      simp [this]
    rw [e]
    have h := VecRef.Laid_is (mk b y b.length) b.length (wds (b.length : Int)) (by omega) (by have := wds_le (b.length : Int); omega)
    refine Ev.step (f := fun k => (tattingref5_Words.f (b.length : Int)).bind fun t351 => ((tattingref5_Laid.f k (bitsOf (mk b y b.length) b.length) t351).bind fun t352 => (some t352))) (fun k => ?_) ?_
    · simp only [tattingref5_Mask.l0]
      rw [if_neg (by omega)]
    simp only [VecRef2.Words_is, Option.bind_some]
    exact Ev.bind h (Ev.now _)
theorem wid_nat (j : Nat) (h : j ≤ 1000) : wid (j : Int) = j := by
  unfold wid
  rw [Int.toNat_natCast]
  exact Nat.min_eq_left (by omega)
theorem wf3 (l : List Int) : ∀ x ∈ l.map (· % 3), (Lit.int .i64 x).wf = true := by
  intro x hx
  obtain ⟨y, _, rfl⟩ := List.mem_map.1 hx
  have h1 := Int.emod_nonneg y (show (3 : Int) ≠ 0 by decide)
  have h2 := Int.emod_lt_of_pos y (show (0 : Int) < 3 by decide)
  simp [Lit.wf, IntKind.min, IntKind.max, IntKind.signed, IntKind.bits]
  omega

theorem st_take (a b : List Int) (k : Nat) : ∀ i, i ≤ k → stN (a.take k) b i = stN a b i
  | 0, _ => rfl
  | i + 1, h => by
    have e : (a.take k).getD i 0 = a.getD i 0 := by
      rw [List.getD_eq_getElem?_getD, List.getD_eq_getElem?_getD, List.getElem?_take, if_pos (by omega)]
    show rowN (stN (a.take k) b i) (mk b ((a.take k).getD i 0) b.length) (wid (b.length : Int)) = rowN (stN a b i) (mk b (a.getD i 0) b.length) (wid (b.length : Int))
    rw [st_take a b k i (by omega), e]
theorem rows_take (a b : List Int) (k n : Nat) (h : k ≤ n) : (rowsN a b n).take k = rowsN a b k := by
  unfold rowsN
  rw [← List.map_take, List.take_range, Nat.min_eq_left h]
theorem rows_same (a b : List Int) (k : Nat) : rowsN (a.take k) b (k + 1) = rowsN a b (k + 1) := by
  unfold rowsN
  apply List.map_congr_left
  intro i hi
  rw [st_take a b k i (by have := List.mem_range.1 hi; omega)]
theorem srows_is (r : List (List Int)) (hr : r.length ≤ 1000) (hl : ∀ x ∈ r, x.length ≤ 100000) : Ev (fun k => tattingref20_SameRows.f k r r) true := by
  unfold tattingref20_SameRows.f
  simp only [if_true]
  have key : ∀ d i, i + d = r.length → Ev (fun k => tattingref20_SameRows.l0 k r r (i : Int)) true := by
    intro d
    induction d with
    | zero =>
      intro i hi
      refine Ev.step (fun k => ?_) (Ev.now _)
      simp only [tattingref20_SameRows.l0]
      rw [if_neg (by omega)]
    | succ d ih =>
      intro i hi
      have h := ih (i + 1) (by omega)
      have e : rd_L2 r (i : Int) = r[i]'(by omega) := by unfold rd_L2; rw [Int.toNat_natCast, List.getD_eq_getElem?_getD, List.getElem?_eq_getElem (show i < r.length by omega)]; rfl
      have hn : wrap64 ((i : Int) + 1) = ((i + 1 : Nat) : Int) := by rw [wrap64_id (by omega) (by omega)]; omega
      refine Ev.step (f := fun k => (tattingref5_Same.f k (rd_L2 r (i : Int)) (rd_L2 r (i : Int))).bind fun t255 => (if t255 = true then (tattingref20_SameRows.l0 k r r ((i + 1 : Nat) : Int)) else (some false))) (fun k => ?_) ?_
      · simp only [tattingref20_SameRows.l0, hn]
        rw [if_pos (by omega), if_pos (by omega), if_pos (by omega)]
      refine Ev.bind (VecRef.Same_eq _ (by rw [e]; have := hl _ (List.getElem_mem (show i < r.length by omega)); omega)) ?_
      simp only [if_true]
      exact h
  exact key r.length 0 (by omega)
structure Hid (p : Prop) : Prop where
  out : p
theorem HyyroGoes : tattinglaw20_HyyroGoes.Pure := by
  intro a b x ha1 ha2 ha3 hb1 hb2 hb3 hx
  clear ha1 ha2 hb1 hb2
  have hx2 : 0 ≤ x ∧ x ≤ 255 := by
    simp [Lit.wf, IntKind.min, IntKind.max, IntKind.signed, IntKind.bits] at hx
    exact hx
  refine Ev.rounds ?_
  unfold tattinglaw20_HyyroGoes.f
  refine Ev.bind AwakeM.awake_is ?_
  simp only [if_true]
  have many : Ev (fun k => tattinglaw20_HyyroGoes.j0 k a b x true) true := by
    refine Ev.step (fun k => ?_) (Ev.now _)
    simp only [tattinglaw20_HyyroGoes.j0]
    rfl
  by_cases h1 : (a.length : Int) > 40
  · simp only [if_pos h1]
    exact many
  · simp only [if_neg h1]
    by_cases h2 : (b.length : Int) > 130
    · simp only [decide_eq_true h2]
      exact many
    · simp only [decide_eq_false h2]
      clear many
      have hA : (a.map (· % 3)).length = a.length := List.length_map _
      have hB : (b.map (· % 3)).length = b.length := List.length_map _
      have wA := wf3 a
      have wB := wf3 b
      have fA := few_is a (by omega) ha3
      have fB := few_is b (by omega) hb3
      generalize a.map (· % 3) = A at *
      generalize b.map (· % 3) = B at *
      have hw := wid_nat B.length (by omega)
      have hwd := wid_wds (B.length : Int)
      have hwle := wds_le (B.length : Int)
      obtain ⟨q, hq, hqn⟩ : ∃ q : Nat, Int.tmod (wrap64 x) (wrap64 ((A.length : Int) + 1)) = (q : Int) ∧ q ≤ A.length := by
        rw [wrap64_id (show -9223372036854775808 ≤ x by omega) (by omega), wrap64_id (show -9223372036854775808 ≤ (A.length : Int) + 1 by omega) (by omega), Int.tmod_eq_emod_of_nonneg hx2.1]
        have h3 := Int.emod_nonneg x (show ((A.length : Int) + 1) ≠ 0 by omega)
        have h4 := Int.emod_lt_of_pos x (show 0 < (A.length : Int) + 1 by omega)
        exact ⟨(x % ((A.length : Int) + 1)).toNat, by omega, by omega⟩
      have HQ := Hid.mk hq
      clear hq
      have e0 : wrap64 ((A.length : Int) + 1) = (A.length : Int) + 1 := wrap64_id (by omega) (by omega)
      have e1 : wrap64 ((q : Int) + 1) = ((q + 1 : Nat) : Int) := by rw [wrap64_id (by omega) (by omega)]; omega
      have hG : Grd A B := ⟨by omega, by omega, wA, wB⟩
      have hG2 : Grd (A.take q) B := ⟨by omega, Nat.lt_of_le_of_lt (show (A.take q).length ≤ 40 from Nat.le_trans (List.length_take_le q A) (by omega)) (by decide), fun z hz => wA z (List.mem_of_mem_take hz), wB⟩
      have hR : Ev (fun k => hyyro_Rows.f k A B) (rowsN A B (A.length + 1)) := by
        unfold hyyro_Rows.f
        simp only [if_pos hG]
        exact Ev.now _
      have hR2 : Ev (fun k => hyyro_Rows.f k (A.take q) B) (rowsN A B (q + 1)) := by
        unfold hyyro_Rows.f
        simp only [if_pos hG2]
        rw [List.length_take, Nat.min_eq_left hqn]
        have := rows_same A B q
        unfold rowsN at this
        rw [this]
        exact Ev.now _
      have hlen : ∀ n, ∀ z ∈ rowsN A B n, z.length ≤ 100000 := by
        intro n z hz
        obtain ⟨i, _, rfl⟩ := List.mem_map.1 hz
        rw [lay_length]
        omega
      have mB := fun y => mask_ref B y (by omega)
      have sS := fun v => VecRef.Same_eq (lay v (wds (B.length : Int))) (by rw [lay_length]; omega)
      have loop : Ev (fun k => tattinglaw20_HyyroGoes.l0 k A B (rowsN A B (A.length + 1)) 0) true := by
        have key : ∀ d i, i + d = A.length → Ev (fun k => tattinglaw20_HyyroGoes.l0 k A B (rowsN A B (A.length + 1)) (i : Int)) true := by
          intro d
          induction d with
          | zero =>
            intro i hi
            obtain rfl : i = A.length := by omega
            have g1 : rd_L2 (rowsN A B (A.length + 1)) (A.length : Int) = lay (stN A B A.length) (wds (B.length : Int)) := by unfold rd_L2; rw [Int.toNat_natCast]; exact rowsN_get A B _ A.length (by omega) []
            have hst : val (lay (stN A B A.length) (wds (B.length : Int))) = stN A B A.length := val_lay_lt (Nat.lt_of_lt_of_le (stN_lt A B _) (Nat.pow_le_pow_right (by decide) hwd))
            have hz := zeros A B hw A.length B.length (Nat.le_refl _)
            refine Ev.step (f := fun k => (tattingref5_Count.f k (lay (stN A B A.length) (wds (B.length : Int))) (B.length : Int)).bind fun t298 => ((hyyro_Len.f k A B).bind fun t299 => (some ((wrap64 ((B.length : Int) - t298)) == t299)))) (fun k => ?_) ?_
            · simp only [tattinglaw20_HyyroGoes.l0, g1]
              rw [if_neg (by omega), if_pos (by omega), if_pos (by rw [rowsN_len]; omega)]
            refine Ev.bind (VecRef2.Count_is _ _ (lay_OK _ _)) ?_
            have hL : Ev (fun k => hyyro_Len.f k A B) ((B.length : Int) - (cnt (stN A B A.length) B.length : Int)) := by
              unfold hyyro_Len.f
              simp only [if_pos hG, hw]
              exact Ev.now _
            refine Ev.bind hL ?_
            rw [hst, hw, wrap64_id (by omega) (by omega)]
            simp only [beq_self_eq_true]
            exact Ev.now _
          | succ d ih =>
            intro i hi
            have i1 : i < A.length := by omega
            have h := ih (i + 1) (by omega)
            have hn : wrap64 ((i : Int) + 1) = ((i + 1 : Nat) : Int) := by rw [wrap64_id (by omega) (by omega)]; omega
            have g1 : rd_L2 (rowsN A B (A.length + 1)) (i : Int) = lay (stN A B i) (wds (B.length : Int)) := by unfold rd_L2; rw [Int.toNat_natCast]; exact rowsN_get A B _ i (Nat.lt_succ_of_lt i1) []
            have g2 : rd_L2 (rowsN A B (A.length + 1)) ((i + 1 : Nat) : Int) = lay (stN A B (i + 1)) (wds (B.length : Int)) := by unfold rd_L2; rw [Int.toNat_natCast]; exact rowsN_get A B _ (i + 1) (Nat.succ_lt_succ i1) []
            have g3 : rd A (i : Int) = A.getD i 0 := by unfold rd; rw [Int.toNat_natCast]
            have hrl : (rowsN A B (A.length + 1)).length = A.length + 1 := rowsN_len ..
            have q1 : (i : Int) < (A.length : Int) := Int.ofNat_lt.2 i1
            have q2 : 0 ≤ ((i + 1 : Nat) : Int) := Int.natCast_nonneg _
            have q3 : ((i + 1 : Nat) : Int) < ((rowsN A B (A.length + 1)).length : Int) := by rw [hrl]; exact Int.ofNat_lt.2 (Nat.succ_lt_succ i1)
            have q4 : 0 ≤ (i : Int) := Int.natCast_nonneg _
            have q5 : (i : Int) < ((rowsN A B (A.length + 1)).length : Int) := by rw [hrl]; exact Int.ofNat_lt.2 (Nat.lt_succ_of_lt i1)
            refine Ev.step (f := fun k => (tattingref5_Mask.f k B (A.getD i 0)).bind fun t303 => ((hyyro_Row.f k (lay (stN A B i) (wds (B.length : Int))) t303 (B.length : Int)).bind fun t306 => ((tattingref5_Same.f k (lay (stN A B (i + 1)) (wds (B.length : Int))) t306).bind fun t309 => (if t309 = true then (tattinglaw20_HyyroGoes.l0 k A B (rowsN A B (A.length + 1)) ((i + 1 : Nat) : Int)) else (some false))))) (fun k => ?_) ?_
            · simp only [tattinglaw20_HyyroGoes.l0, hn, g1, g2, g3]
              rw [if_pos q1, if_pos q2, if_pos q3, if_pos q4, if_pos q5]
            refine Ev.bind (mB _) ?_
            refine Ev.bind (hyyro_is _ _ _ (lay_OK _ _) (lay_OK _ _)) ?_
            have v1 : val (lay (stN A B i) (wds (B.length : Int))) = stN A B i := val_lay_lt (Nat.lt_of_lt_of_le (stN_lt A B _) (Nat.pow_le_pow_right (by decide) hwd))
            have v2 : val (lay (mk B (A.getD i 0) B.length % 2 ^ B.length) (wds (B.length : Int))) = mk B (A.getD i 0) B.length % 2 ^ B.length := val_lay_lt (Nat.lt_of_lt_of_le (Nat.mod_lt _ (Nat.two_pow_pos _)) (Nat.pow_le_pow_right (by decide) (by rw [hw] at hwd; exact hwd)))
            have v3 : stN A B i % 2 ^ B.length = stN A B i := Nat.mod_eq_of_lt (by have := stN_lt A B i; rw [hw] at this; exact this)
            have v4 : rowN (stN A B i) (mk B (A.getD i 0) B.length % 2 ^ B.length) (wid (B.length : Int)) = stN A B (i + 1) := by
              show _ = rowN (stN A B i) (mk B (A.getD i 0) B.length) (wid (B.length : Int))
              rw [hw, ← rowN_mod (stN A B i) (mk B (A.getD i 0) B.length), v3]
            rw [v1, v2, v4]
            refine Ev.bind (sS _) ?_
            simp only [if_true]
            exact h
        exact key A.length 0 (by omega)
      refine Ev.step (f := fun k => (tattingref1_Few.f k a 3).bind fun t276 => ((tattingref1_Few.f k b 3).bind fun t279 => (if (wrap64 ((t276.length : Int) + 1)) = 0 then (none) else ((hyyro_Rows.f k t276 t279).bind fun t282 => (if 0 ≤ (Int.tmod (wrap64 (x)) (wrap64 ((t276.length : Int) + 1))) then (if (Int.tmod (wrap64 (x)) (wrap64 ((t276.length : Int) + 1))) ≤ (t276.length : Int) then ((hyyro_Rows.f k (t276.take ((Int.tmod (wrap64 (x)) (wrap64 ((t276.length : Int) + 1))) : Int).toNat) t279).bind fun t289 => (if (t282.length : Int) = (wrap64 ((t276.length : Int) + 1)) then (if (t289.length : Int) = (wrap64 ((Int.tmod (wrap64 (x)) (wrap64 ((t276.length : Int) + 1))) + 1)) then (if 0 ≤ (wrap64 ((Int.tmod (wrap64 (x)) (wrap64 ((t276.length : Int) + 1))) + 1)) then (if (wrap64 ((Int.tmod (wrap64 (x)) (wrap64 ((t276.length : Int) + 1))) + 1)) ≤ (t282.length : Int) then ((tattingref20_SameRows.f k (t282.take ((wrap64 ((Int.tmod (wrap64 (x)) (wrap64 ((t276.length : Int) + 1))) + 1)) : Int).toNat) t289).bind fun t296 => (tattinglaw20_HyyroGoes.j1 k t276 t279 t282 (!t296))) else (none)) else (none)) else (tattinglaw20_HyyroGoes.j1 k t276 t279 t282 true)) else (tattinglaw20_HyyroGoes.j1 k t276 t279 t282 true))) else (none)) else (none)))))) (fun k => ?_) ?_
      · simp only [tattinglaw20_HyyroGoes.j0]
        rfl
      refine Ev.bind fA (Ev.bind fB ?_)
      simp only [e0, if_neg (show ¬ ((A.length : Int) + 1 = 0) by omega)]
      refine Ev.bind hR ?_
      have hq := HQ.out
      rw [e0] at hq
      simp only [hq, e1, Int.toNat_natCast, rowsN_len, if_pos (Int.natCast_nonneg q), if_pos (show (q : Int) ≤ (A.length : Int) by omega)]
      refine Ev.bind hR2 ?_
      simp only [rowsN_len, if_pos (show ((A.length + 1 : Nat) : Int) = (A.length : Int) + 1 by omega), if_true, if_pos (Int.natCast_nonneg (q + 1)), if_pos (show ((q + 1 : Nat) : Int) ≤ ((A.length + 1 : Nat) : Int) by omega), rows_take A B (q + 1) (A.length + 1) (by omega)]
      refine Ev.bind (srows_is _ (by rw [rowsN_len]; omega) (hlen _)) ?_
      refine Ev.step (f := fun k => tattinglaw20_HyyroGoes.l0 k A B (rowsN A B (A.length + 1)) 0) (fun k => ?_) loop
      simp only [tattinglaw20_HyyroGoes.j1]
      rfl
end Go.Proofs.Ytnnihdhjphmohaa.Pure
