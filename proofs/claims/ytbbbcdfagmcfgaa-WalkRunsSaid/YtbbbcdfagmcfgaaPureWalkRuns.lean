import Derived.Test.YtbbbcdfagmcfgaaSamWalkRuns
import Derived.Test.YtbbbcdfagmcfgaaGridY
namespace Go.Proofs.Ytbbbcdfagmcfgaa.EWalkRuns
open Go Go.Proofs.Ytbbbcdfagmcfgaa.AE Go.Proofs.Ytbbbcdfagmcfgaa Go.Proofs.Ytbbbcdfagmcfgaa.WayN Go.Proofs.Ytbbbcdfagmcfgaa.Lcs
set_option linter.unusedVariables false
set_option linter.unusedSimpArgs false
theorem awake : R9 1300 () = some true := by kernel_rfl
theorem fmod4 (x : Int) : (if x.tmod 4 < 0 then IntKind.wrap .i64 (x.tmod 4 + 4) else x.tmod 4) = x % 4 := by
  have h3 : x.tmod 4 = x % 4 ∨ x.tmod 4 = x % 4 - 4 := by
    rw [Int.tmod_eq_emod (a := x) (b := 4)]
    split <;> simp
  split
  · rw [w64 (by omega) (by omega)]; omega
  · omega
theorem few_loop (n : Nat) (l : List Int) (hl : l.length ≤ 1000) : ∀ (m i : Nat), l.length - i < m → i ≤ l.length →
    J14_0 n m (l, 4, (i : Int), (l.take i).map (· % 4)) = some (.inl (l, 4, (l.length : Int), l.map (· % 4)))
  | 0, i, h, _ => by omega
  | m + 1, i, hm, hi => by
    rw [j14_0]
    unfold F14_0
    dsimp only
    by_cases h : i < l.length
    · have ih := few_loop n l hl m (i + 1) (by omega) h
      have e : l.getD i 0 = l[i] := by rw [List.getD_eq_getElem?_getD, List.getElem?_eq_getElem h]; rfl
      have hf := fmod4 l[i]
      rw [List.take_succ_eq_append_getElem h, List.map_append, List.map_cons, List.map_nil, ← hf] at ih
      rw [decide_eq_true (show (i : Int) < (l.length : Int) by omega), cond_true, if_pos (by omega), Int.toNat_natCast, e, if_neg (by decide), inc' (by omega)]
      have hlen : ((l.take i).map (· % 4)).length = i := by simp; omega
      by_cases c : l[i].tmod 4 < 0
      · rw [if_pos c] at ih
        rw [decide_eq_true c, cond_true, if_pos (by rw [hlen]; simp only [List.length_cons, List.length_nil]; omega)]
        exact ih
      · rw [if_neg c] at ih
        rw [decide_eq_false c, cond_false, if_pos (by rw [hlen]; simp only [List.length_cons, List.length_nil]; omega)]
        exact ih
    · obtain rfl : i = l.length := by omega
      rw [decide_eq_false (show ¬ (l.length : Int) < (l.length : Int) by omega), cond_false, List.take_length]
theorem few_is (n : Nat) (l : List Int) (hl : l.length ≤ 1000) (hn : l.length < n) : R14 (n + 1) l 4 = some (l.map (· % 4)) := by
  rw [u14]
  unfold r14
  have h : J14_0 n n (l, 4, 0, []) = some (.inl (l, 4, (l.length : Int), l.map (· % 4))) := few_loop n l hl n 0 (by omega) (by omega)
  rw [h]
  rfl
theorem few_in (l : List Int) : ∀ x ∈ l.map (· % 4), inI64 x = true := by
  intro x hx
  obtain ⟨y, _, rfl⟩ := List.mem_map.1 hx
  have h1 := Int.emod_nonneg y (show (4 : Int) ≠ 0 by decide)
  have h2 := Int.emod_lt_of_pos y (show (0 : Int) < 4 by decide)
  simp [inI64]
  omega
theorem way_loop (n : Nat) (a b : List Int) (ha : a.length ≤ 1000) (hb : b.length ≤ 1000) : ∀ (m i j : Nat) (l : List Pq), i + j < m → i ≤ a.length → j ≤ b.length → l.length + (way a b i j).length ≤ 1000 →
    ∃ i' j', J16_0 n m (a, b, Pure.gridF a b, (i : Int), (j : Int), l) = some (.inl (a, b, Pure.gridF a b, i', j', l ++ way a b i j))
  | 0, i, j, l, h, _, _, _ => by omega
  | m + 1, i, j, l, hm, hi, hj, hl => by
    rw [j16_0]
    unfold F16_0
    dsimp only
    cases i with
    | zero =>
      rw [decide_eq_false (show ¬ ((0 : Nat) : Int) > 0 by omega), show (false == true) = false from rfl, cond_false, way_zero, List.append_nil]
      exact ⟨_, _, rfl⟩
    | succ i =>
      rw [decide_eq_true (show ((i + 1 : Nat) : Int) > 0 by omega), beq_self_eq_true, cond_true]
      cases j with
      | zero =>
        rw [decide_eq_false (show ¬ ((0 : Nat) : Int) > 0 by omega), cond_false, way_zero2, List.append_nil]
        exact ⟨_, _, rfl⟩
      | succ j =>
        have hgl := Pure.gridF_len a b
        have hg := Pure.gridF_get a b (i + 1) hi
        have hrl := Pure.rowF_len a b (i + 1)
        have hr1 := Pure.rowF_get a b (i + 1) (j + 1) hj
        have hr0 := Pure.rowF_get a b (i + 1) j (by omega)
        rw [decide_eq_true (show ((j + 1 : Nat) : Int) > 0 by omega), cond_true, hgl, if_pos (by omega), Int.toNat_natCast, hg, hrl, if_pos (by omega), Int.toNat_natCast, hr1, if_pos (by omega), dec' (by omega), if_pos (by omega), Int.toNat_natCast, hr0]
        by_cases c : tabF a b (i + 1) (j + 1) = tabF a b (i + 1) j
        · have hw := way_up a b i j c
          rw [hw] at hl ⊢
          rw [decide_eq_true (by omega), cond_true]
          exact way_loop n a b ha hb m (i + 1) j l (by omega) hi (by omega) hl
        · rw [decide_eq_false (by omega), cond_false, dec' (by omega), if_pos (by omega), if_pos (by omega), Int.toNat_natCast]
          by_cases e' : a.getD i 0 = b.getD j 0
          · have hw := way_hit a b i j c e'
            rw [hw] at hl ⊢
            simp only [List.length_cons] at hl
            obtain ⟨i', j', q⟩ := way_loop n a b ha hb m i j (l ++ [((i : Int), (j : Int))]) (by omega) (by omega) (by omega) (by simp; omega)
            rw [decide_eq_true e', cond_true, if_pos (by simp only [List.length_cons, List.length_nil]; omega)]
            rw [List.append_assoc, List.singleton_append] at q
            exact ⟨i', j', q⟩
          · have hw := way_down a b i j c e'
            rw [hw] at hl ⊢
            rw [decide_eq_false e', cond_false]
            exact way_loop n a b ha hb m i (j + 1) l (by omega) (by omega) hj hl
theorem turn_loop (n : Nat) (l : List Pq) (hl : l.length ≤ 1000) : ∀ (m e : Nat), e < m → e ≤ l.length → J16_1 n m ((e : Int) - 1, l, (l.drop e).reverse) = some (.inl (-1, l, l.reverse))
  | 0, e, h, _ => by omega
  | m + 1, 0, _, _ => by
    rw [j16_1]
    unfold F16_1
    dsimp only
    rw [decide_eq_false (by omega), cond_false, List.drop_zero]
    rfl
  | m + 1, e + 1, hm, he => by
    have ih := turn_loop n l hl m e (by omega) (by omega)
    have hw : IntKind.wrap .i64 ((e : Int) - 1) = (e : Int) - 1 := w64 (by omega) (by omega)
    rw [List.drop_eq_getElem_cons (show e < l.length by omega), List.reverse_cons] at ih
    have hg : l.getD e (0, 0) = l[e] := by rw [List.getD_eq_getElem?_getD, List.getElem?_eq_getElem (by omega)]; rfl
    rw [j16_1]
    unfold F16_1
    dsimp only
    rw [show (((e + 1 : Nat) : Int) - 1) = (e : Int) by omega, decide_eq_true (show (e : Int) ≥ 0 by omega), cond_true, if_pos (by omega), Int.toNat_natCast, hg, if_pos (by simp only [List.length_reverse, List.length_drop, List.length_cons, List.length_nil]; omega), hw]
    exact ih
theorem way_is (n : Nat) (a b : List Int) (ha : a.length ≤ 1000) (hb : b.length ≤ 1000) (hn : a.length + b.length < n) : R16 (n + 2) a b = some (way a b a.length b.length).reverse := by
  have hB : R32 (n + 1) a b = some (Pure.gridF a b) := by
    show GridY.ahdS (a, b) = _
    unfold GridY.ahdS
    rw [if_pos ⟨ha, hb⟩]
  have hwl := way_le a b a.length b.length (Nat.le_refl _) (Nat.le_refl _)
  obtain ⟨i', j', q⟩ := way_loop (n + 1) a b ha hb (n + 1) a.length b.length [] (by omega) (Nat.le_refl _) (Nat.le_refl _) (by simp; omega)
  rw [List.nil_append] at q
  have ht := turn_loop (n + 1) (way a b a.length b.length) (by omega) (n + 1) (way a b a.length b.length).length (by omega) (Nat.le_refl _)
  rw [List.drop_length, List.reverse_nil] at ht
  have hw : IntKind.wrap .i64 (((way a b a.length b.length).length : Int) - 1) = ((way a b a.length b.length).length : Int) - 1 := w64 (by omega) (by omega)
  rw [u16]
  unfold r16
  rw [hB]
  simp only [Option.bind_some]
  rw [q]
  simp only [Option.bind_some, onSum, hw]
  rw [ht]
  rfl
theorem rsteps_is (k : Nat) (n m : Nat) (hn : n ≤ 1000) (hm : m ≤ 1000) : R17 (k + 3) (n : Int) (m : Int) = some ((n * ((m + 63) / 64) : Nat) : Int) := by
  have hb : n * ((m + 63) / 64) ≤ 1000 * 16 := Nat.mul_le_mul hn (by omega)
  have e : ((m : Int) + 63) / 64 = (((m + 63) / 64 : Nat) : Int) := by omega
  rw [u17]
  unfold r17
  rw [ref_words k _ (by omega) (by omega), e]
  simp only [Option.bind_some]
  have hw : IntKind.wrap .i64 ((n : Int) * (((m + 63) / 64 : Nat) : Int)) = ((n * ((m + 63) / 64) : Nat) : Int) := by rw [← Int.natCast_mul, w64 (by omega) (by omega)]
  rw [hw, decide_eq_false (show ¬ (n : Int) < 0 by omega), decide_eq_false (show ¬ (m : Int) < 0 by omega), decide_eq_false (show ¬ (n : Int) > 1048576 by omega), decide_eq_false (show ¬ (m : Int) > 1048576 by omega)]
  rfl
theorem run_bad (k : Nat) (kind e : Int) (a b : List Int) (h : (kind ≠ 0 ∧ kind ≠ 1) ∨ e < 1) : R8 (k + 1) kind a b e = some ([], 0, 1) := by
  rw [u8]
  unfold r8
  dsimp only
  by_cases h0 : kind = 0
  · rw [decide_eq_true h0, decide_eq_true (show e < 1 by omega)]; rfl
  · by_cases h1 : kind = 1
    · rw [decide_eq_false h0, decide_eq_true h1, decide_eq_true (show e < 1 by omega)]; rfl
    · rw [decide_eq_false h0, decide_eq_false h1]; rfl
theorem law (kind : Int) (a b : List Int) (e : Int) : R4 1301 kind a b e = some true := by
  rw [u4]
  unfold r4
  rw [awake, Option.bind_some]
  simp only [Bool.not_true, cond_false]
  by_cases ha : a.length ≤ 40
  · rw [decide_eq_false (show ¬ (a.length : Int) > 40 by omega), beq_self_eq_true, cond_true]
    by_cases hb : b.length ≤ 130
    · rw [decide_eq_false (show ¬ (b.length : Int) > 130 by omega), cond_false, few_is 1299 a (by omega) (by omega), Option.bind_some, few_is 1299 b (by omega) (by omega), Option.bind_some]
      have hx := few_in a
      have hy := few_in b
      have hla : (a.map (· % 4)).length ≤ 40 := by rw [List.length_map]; exact ha
      have hlb : (b.map (· % 4)).length ≤ 130 := by rw [List.length_map]; exact hb
      generalize a.map (· % 4) = x at *
      generalize b.map (· % 4) = y at *
      by_cases hbad : (kind ≠ 0 ∧ kind ≠ 1) ∨ e < 1
      · rw [run_bad 1299 kind e x y hbad]
        simp only [Option.bind_some]
        by_cases h0 : kind = 0
        · rw [decide_eq_true h0, decide_eq_true (show e < 1 by omega)]; rfl
        · by_cases h1 : kind = 1
          · rw [decide_eq_false h0, decide_eq_true h1, decide_eq_true (show e < 1 by omega)]; rfl
          · rw [decide_eq_false h0, decide_eq_false h1]; rfl
      · have hkd : kind = 0 ∨ kind = 1 := by omega
        have he : ¬ e < 1 := by omega
        have hle := way_le x y x.length y.length (Nat.le_refl _) (Nat.le_refl _)
        have hbnd : x.length * ((y.length + 63) / 64) ≤ 1000 * 16 := Nat.mul_le_mul (by omega) (by omega)
        have hs : R15 1300 (way x y x.length y.length).reverse (way x y x.length y.length).reverse = some true := sprs_is 1299 _ (by rw [List.length_reverse]; omega) (by rw [List.length_reverse]; omega)
        have hW := way_is 1298 x y (by omega) (by omega) (by omega)
        have hS := rsteps_is 1297 x.length y.length (by omega) (by omega)
        have hw2 : IntKind.wrap .i64 ((2 : Int) * ((x.length * ((y.length + 63) / 64) : Nat) : Int)) = ((2 * (x.length * ((y.length + 63) / 64)) : Nat) : Int) := by
          rw [w64 (by omega) (by omega)]; omega
        rw [run_is 1294 kind e x y hkd (by omega) (by omega) (by omega) (by omega) (by omega) hx hy]
        simp only [Option.bind_some, hW, hs, hS, hw2, decide_true, beq_self_eq_true, cond_true]
        rw [decide_eq_false he]
        rcases hkd with rfl | rfl <;> rfl
    · rw [decide_eq_true (show (b.length : Int) > 130 by omega), cond_true]
  · rw [decide_eq_true (show (a.length : Int) > 40 by omega), show (true == false) = false from rfl, cond_false]
theorem law_run (a0 : Int) (w0 : WF (.int .i64) a0) (a1 : List Int) (w1 : WF (.slice (.int .i64)) a1) (a2 : List Int) (w2 : WF (.slice (.int .i64)) a2) (a3 : Int) (w3 : WF (.int .i64) a3) : runHow E (evalF E 1300) 1300 s4 (a0, a1, a2, a3) h4 = some true :=
  (law_R 1300 a0 a1 a2 a3).trans (law a0 a1 a2 a3)
end Go.Proofs.Ytbbbcdfagmcfgaa.EWalkRuns
