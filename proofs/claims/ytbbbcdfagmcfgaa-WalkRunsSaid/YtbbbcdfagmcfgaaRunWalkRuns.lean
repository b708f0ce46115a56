import Derived.Test.YtbbbcdfagmcfgaaVec2WalkRuns
import Derived.Test.YtbbbcdfagmcfgaaWayN
namespace Go.Proofs.Ytbbbcdfagmcfgaa.EWalkRuns
open Go Go.Proofs.Ytbbbcdfagmcfgaa.AE Go.Proofs.Ytbbbcdfagmcfgaa Go.Proofs.Ytbbbcdfagmcfgaa.VecMath Go.Proofs.Ytbbbcdfagmcfgaa.WayN Go.Proofs.Ytbbbcdfagmcfgaa.Lcs
set_option linter.unusedVariables false
set_option linter.unusedSimpArgs false
/-! walk.Run goes the way back. -/
abbrev Pq := Int × Int
def wn (b : List Int) : Nat := (b.length + 63) / 64
def rowW (a b : List Int) (i : Nat) : List Int := lay (stM a b i) (wn b)
def mb (b : List Int) (x : Int) : List Int := lay (mkB b x b.length) (wn b)
theorem row_val (a b : List Int) (i : Nat) : val (rowW a b i) = stM a b i := val_lay_lt (Nat.lt_of_lt_of_le (stM_lt a b i) (Nat.pow_le_pow_right (by decide) (by unfold wn; omega)))
theorem mb_val (b : List Int) (x : Int) : val (mb b x) = mkB b x b.length := val_lay_lt (Nat.lt_of_lt_of_le (by rw [← numB_mk]; exact numB_lt _ _) (Nat.pow_le_pow_right (by decide) (by unfold wn; omega)))
theorem of_is (k : Nat) (b : List Int) (x : Int) (hb : b.length ≤ 1000) (hx : inI64 x = true) : R26 (k + 5) b x = some (mb b x) := maskOf_is b x (by omega) hx
theorem row_is (k : Nat) (kind : Int) (a b : List Int) (i : Nat) (hb : b.length ≤ 1000) (hk : 20 < k) : R25 (k + 5) kind (rowW a b i) (mb b (a.getD i 0)) (b.length : Int) = some (rowW a b (i + 1)) := by
  rw [wrow_is k kind (rowW a b i) (mb b (a.getD i 0)) (lay_OK _ _) (lay_OK _ _) b.length (by omega) (by omega), row_val, mb_val]
  rfl
theorem mod_zero_iff (i c e : Nat) (he : 1 ≤ e) (h1 : i ≤ c * e) (h2 : c * e < i + e) : i % e = 0 ↔ i = c * e := by
  constructor
  · intro h
    have h3 := Nat.div_add_mod i e
    rw [h, Nat.add_zero] at h3
    have h4 : i / e ≤ c := Nat.le_of_mul_le_mul_left (by rw [h3, Nat.mul_comm e c]; exact h1) he
    have h5 : c < i / e + 1 := Nat.lt_of_mul_lt_mul_left (a := e) (by rw [Nat.mul_add, h3, Nat.mul_comm e c, Nat.mul_one]; exact h2)
    have h6 : c = i / e := by omega
    rw [h6, Nat.mul_comm]; exact h3.symm
  · intro h; rw [h]; exact Nat.mul_mod_left c e
def keptL (a b : List Int) (e c : Nat) : List (List Int) := (List.range c).map fun q => rowW a b (q * e)
theorem keptL_len (a b : List Int) (e c : Nat) : (keptL a b e c).length = c := by simp [keptL]
theorem keptL_succ (a b : List Int) (e c : Nat) : keptL a b e c ++ [rowW a b (c * e)] = keptL a b e (c + 1) := by simp [keptL, List.range_succ]
theorem keptL_get (a b : List Int) (e c q : Nat) (h : q < c) : (keptL a b e c).getD q [] = rowW a b (q * e) := by
  rw [List.getD_eq_getElem?_getD, keptL, List.getElem?_map, List.getElem?_range h]; rfl
def segL (a b : List Int) (f c : Nat) : List (List Int) := (List.range c).map fun t => rowW a b (f + t)
theorem segL_len (a b : List Int) (f c : Nat) : (segL a b f c).length = c := by simp [segL]
theorem segL_succ (a b : List Int) (f c : Nat) : segL a b f c ++ [rowW a b (f + c)] = segL a b f (c + 1) := by simp [segL, List.range_succ]
theorem segL_get (a b : List Int) (f c q : Nat) (h : q < c) : (segL a b f c).getD q [] = rowW a b (f + q) := by
  rw [List.getD_eq_getElem?_getD, segL, List.getElem?_map, List.getElem?_range h]; rfl
theorem inc' {i : Nat} (h : i ≤ 1048576) : IntKind.wrap .i64 ((i : Int) + 1) = ((i + 1 : Nat) : Int) := inc h
theorem dec' {i : Nat} (h : i ≤ 1048576) : IntKind.wrap .i64 (((i + 1 : Nat) : Int) - 1) = (i : Int) := by rw [w64 (by omega) (by omega)]; omega
theorem sub' {i j : Nat} (h : i ≤ 1048576) (hj : j ≤ i) : IntKind.wrap .i64 ((i : Int) - (j : Int)) = ((i - j : Nat) : Int) := by rw [w64 (by omega) (by omega)]; omega
theorem inA {a : List Int} (hx : ∀ x ∈ a, inI64 x = true) {i : Nat} (hi : i < a.length) : inI64 (a.getD i 0) = true := by
  rw [List.getD_eq_getElem?_getD, List.getElem?_eq_getElem hi]
  exact hx _ (List.getElem_mem hi)
theorem keep_loop (k : Nat) (hk : 20 < k) (kind : Int) (a b : List Int) (ha : a.length ≤ 1000) (hb : b.length ≤ 1000) (hx : ∀ x ∈ a, inI64 x = true) (e : Nat) (he : 1 ≤ e) (he2 : e ≤ 1000) : ∀ (m i c : Nat), a.length - i < m → i ≤ a.length → i ≤ c * e → c * e < i + e →
    ∃ c', a.length ≤ c' * e ∧ c' * e < a.length + e ∧ J8_1 (k + 5) m (kind, a, b, (e : Int), b, rowW a b i, a, (a.length : Int), (i : Int), keptL a b e c) = some (.inl (kind, a, b, (e : Int), b, rowW a b a.length, a, (a.length : Int), (a.length : Int), keptL a b e c'))
  | 0, i, c, h, _, _, _ => by omega
  | m + 1, i, c, hm, hi, h1, h2 => by
    rw [j8_1]
    unfold F8_1
    dsimp only
    by_cases h : i < a.length
    · have hmod : (i : Int).tmod (e : Int) = ((i % e : Nat) : Int) := by rw [Int.tmod_eq_emod_of_nonneg (by omega)]; rfl
      have hiff := mod_zero_iff i c e he h1 h2
      have hce : c ≤ c * e := Nat.le_mul_of_pos_right c (by omega)
      have hxi := inA hx h
      have hcs : (c + 1) * e = c * e + e := Nat.succ_mul c e
      rw [decide_eq_true (show (i : Int) < (a.length : Int) by omega), cond_true, if_pos (by omega), Int.toNat_natCast, if_neg (show ¬ (e : Int) = 0 by omega), hmod, of_is k b _ hb hxi]
      simp only [Option.bind_some]
      rw [row_is k kind a b i hb hk]
      simp only [Option.bind_some]
      rw [inc' (by omega)]
      by_cases q : i % e = 0
      · have hic := hiff.1 q
        have ih := keep_loop k hk kind a b ha hb hx e he he2 m (i + 1) (c + 1) (by omega) h (by omega) (by omega)
        rw [decide_eq_true (show ((i % e : Nat) : Int) = 0 by omega), cond_true, keptL_len, if_pos (by simp only [List.length_cons, List.length_nil]; omega)]
        have hs := keptL_succ a b e c
        rw [← hic] at hs
        rw [hs]
        exact ih
      · have hic : ¬ i = c * e := fun e => q (hiff.2 e)
        rw [decide_eq_false (show ¬ ((i % e : Nat) : Int) = 0 by omega), cond_false]
        exact keep_loop k hk kind a b ha hb hx e he he2 m (i + 1) c (by omega) h (by omega) (by omega)
    · obtain rfl : i = a.length := by omega
      rw [decide_eq_false (show ¬ (a.length : Int) < (a.length : Int) by omega), cond_false]
      exact ⟨c, h1, h2, rfl⟩
theorem seg_loop (k : Nat) (hk : 20 < k) (kind : Int) (a b : List Int) (ha : a.length ≤ 1000) (hb : b.length ≤ 1000) (hx : ∀ x ∈ a, inI64 x = true) (e jj kk : Int) (kept : List (List Int)) (l : List Pq) (f t : Nat) (ht : t ≤ a.length) : ∀ (m i : Nat), t - i < m → f ≤ i → i ≤ t →
    J8_0 (k + 5) m (kind, a, b, e, b, jj, kk, (f : Int), (t : Int), (i : Int), kept, l, segL a b f (i - f + 1)) = some (.inl (kind, a, b, e, b, jj, kk, (f : Int), (t : Int), (t : Int), kept, l, segL a b f (t - f + 1)))
  | 0, i, h, _, _ => by omega
  | m + 1, i, hm, hf, hi => by
    rw [j8_0]
    unfold F8_0
    dsimp only
    by_cases h : i < t
    · have hxi := inA hx (show i < a.length by omega)
      have ih := seg_loop k hk kind a b ha hb hx e jj kk kept l f t ht m (i + 1) (by omega) (by omega) (by omega)
      have hg := segL_get a b f (i - f + 1) (i - f) (by omega)
      have hs := segL_succ a b f (i - f + 1)
      rw [show f + (i - f) = i by omega] at hg
      rw [show f + (i - f + 1) = i + 1 by omega, show i - f + 1 + 1 = i + 1 - f + 1 by omega] at hs
      rw [decide_eq_true (show (i : Int) < (t : Int) by omega), cond_true, sub' (by omega) hf, segL_len, if_pos (by omega), if_pos (by omega), Int.toNat_natCast, Int.toNat_natCast, hg, of_is k b _ hb hxi]
      simp only [Option.bind_some]
      rw [row_is k kind a b i hb hk]
      simp only [Option.bind_some]
      rw [if_pos (by simp only [List.length_cons, List.length_nil]; omega), hs, inc' (by omega)]
      exact ih
    · obtain rfl : i = t := by omega
      rw [decide_eq_false (show ¬ (i : Int) < (i : Int) by omega), cond_false]
theorem back_loop (k : Nat) (kind : Int) (a b : List Int) (ha : a.length ≤ 1000) (hb : b.length ≤ 1000) (e kk : Int) (kept : List (List Int)) (f t : Nat) (ht : t ≤ a.length) : ∀ (m i j : Nat) (l : List Pq), (i - f) + j < m → f ≤ i → i ≤ t → j ≤ b.length → l.length + (way a b i j).length ≤ 1000 →
    ∃ i' j' l', f ≤ i' ∧ i' ≤ i ∧ j' ≤ j ∧ (i' = f ∨ j' = 0) ∧ l' ++ way a b i' j' = l ++ way a b i j ∧
      J8_3 (k + 5) m (kind, a, b, e, b, (j : Int), kk, (f : Int), (i : Int), kept, l, segL a b f (t - f + 1)) = some (.inl (kind, a, b, e, b, (j' : Int), kk, (f : Int), (i' : Int), kept, l', segL a b f (t - f + 1)))
  | 0, i, j, l, h, _, _, _, _ => by omega
  | m + 1, i, j, l, hm, hf, hi, hj, hl => by
    rw [j8_3]
    unfold F8_3
    dsimp only
    by_cases h : f < i
    · obtain ⟨i, rfl⟩ : ∃ i1, i = i1 + 1 := ⟨i - 1, by omega⟩
      rw [decide_eq_true (show ((i + 1 : Nat) : Int) > (f : Int) by omega), beq_self_eq_true, cond_true]
      cases j with
      | zero =>
        rw [decide_eq_false (show ¬ ((0 : Nat) : Int) > 0 by omega), cond_false]
        exact ⟨i + 1, 0, l, hf, Nat.le_refl _, Nat.le_refl _, .inr rfl, rfl, rfl⟩
      | succ j =>
        have hg := segL_get a b f (t - f + 1) (i + 1 - f) (by omega)
        rw [show f + (i + 1 - f) = i + 1 by omega] at hg
        have hbit := bitM a b (i + 1) j (by omega) (by omega)
        rw [decide_eq_true (show ((j + 1 : Nat) : Int) > 0 by omega), cond_true, sub' (by omega) hf, segL_len, if_pos (by omega), Int.toNat_natCast, hg, dec' (by omega)]
        have hget : R27 (k + 5) (rowW a b (i + 1)) (j : Int) = some (decide (tabF a b (i + 1) (j + 1) = tabF a b (i + 1) j)) := by
          rw [get_is (k + 3) (rowW a b (i + 1)) (lay_OK _ _) j (by omega), row_val, hbit]
        rw [hget]
        simp only [Option.bind_some]
        by_cases c : tabF a b (i + 1) (j + 1) = tabF a b (i + 1) j
        · rw [decide_eq_true c, cond_true]
          have hw := way_up a b i j c
          rw [hw] at hl ⊢
          obtain ⟨i', j', l', q1, q2, q3, q4, q5, q6⟩ := back_loop k kind a b ha hb e kk kept f t ht m (i + 1) j l (by omega) hf hi (by omega) hl
          exact ⟨i', j', l', q1, q2, by omega, q4, q5, q6⟩
        · rw [decide_eq_false c, cond_false, dec' (by omega), if_pos (by omega), if_pos (by omega), Int.toNat_natCast, Int.toNat_natCast]
          by_cases e' : a.getD i 0 = b.getD j 0
          · have hw := way_hit a b i j c e'
            rw [hw] at hl ⊢
            simp only [List.length_cons] at hl
            obtain ⟨i', j', l', q1, q2, q3, q4, q5, q6⟩ := back_loop k kind a b ha hb e kk kept f t ht m i j (l ++ [((i : Int), (j : Int))]) (by omega) (by omega) (by omega) (by omega) (by simp; omega)
            rw [decide_eq_true e', cond_true, if_pos (by simp only [List.length_cons, List.length_nil]; omega)]
            exact ⟨i', j', l', q1, by omega, by omega, q4, by rw [q5, List.append_assoc, List.singleton_append], q6⟩
          · have hw := way_down a b i j c e'
            rw [hw] at hl ⊢
            rw [decide_eq_false e', cond_false]
            obtain ⟨i', j', l', q1, q2, q3, q4, q5, q6⟩ := back_loop k kind a b ha hb e kk kept f t ht m i (j + 1) l (by omega) (by omega) (by omega) hj hl
            exact ⟨i', j', l', q1, by omega, q3, q4, q5, q6⟩
    · obtain rfl : i = f := by omega
      rw [decide_eq_false (show ¬ (i : Int) > (i : Int) by omega), show (false == true) = false from rfl, cond_false]
      exact ⟨i, j, l, Nat.le_refl _, Nat.le_refl _, Nat.le_refl _, .inl rfl, rfl, rfl⟩
theorem run_loop (k : Nat) (kind : Int) (a b : List Int) (hk : 20 < k) (hk2 : a.length + b.length < k) (ha : a.length ≤ 1000) (hb : b.length ≤ 1000) (hx : ∀ x ∈ a, inI64 x = true) (e c : Nat) (he : 1 ≤ e) (he2 : e ≤ 1000) (hc1 : a.length ≤ c * e) (hc2 : c * e < a.length + e) : ∀ (s m j : Nat) (l : List Pq), s ≤ c → s < m → j ≤ b.length → l ++ way a b (min (s * e) a.length) j = way a b a.length b.length →
    ∃ j', J8_2 (k + 5) m (kind, a, b, (e : Int), b, (j : Int), (s : Int) - 1, keptL a b e c, l) = some (.inl (kind, a, b, (e : Int), b, j', -1, keptL a b e c, way a b a.length b.length))
  | s, 0, j, l, _, h, _, _ => by omega
  | 0, m + 1, j, l, hs, hm, hj, hl => by
    rw [Nat.zero_mul, Nat.zero_min, way_zero, List.append_nil] at hl
    rw [j8_2]
    unfold F8_2
    dsimp only
    rw [decide_eq_false (show ¬ ((0 : Nat) : Int) - 1 ≥ 0 by omega), cond_false, hl]
    exact ⟨(j : Int), rfl⟩
  | s + 1, m + 1, j, l, hs, hm, hj, hl => by
    have h1 : (s + 1) * e = s * e + e := Nat.succ_mul s e
    have h2 : (s + 1) * e ≤ c * e := Nat.mul_le_mul_right e hs
    have hlt : s * e < a.length := by omega
    have hcc : c ≤ c * e := Nat.le_mul_of_pos_right c (by omega)
    have hto : min ((s + 1) * e) a.length ≤ a.length := Nat.min_le_right _ _
    have hft : s * e ≤ min ((s + 1) * e) a.length := by rw [h1]; omega
    have hmin : min (s * e) a.length = s * e := Nat.min_eq_left (by omega)
    have p1 : IntKind.wrap .i64 ((s : Int) * (e : Int)) = ((s * e : Nat) : Int) := by rw [← Int.natCast_mul, w64 (by omega) (by omega)]
    have p2 : IntKind.wrap .i64 (((s * e : Nat) : Int) + (e : Int)) = (((s + 1) * e : Nat) : Int) := by rw [w64 (by omega) (by omega)]; omega
    have p3 : (if (a.length : Int) < (((s + 1) * e : Nat) : Int) then (a.length : Int) else (((s + 1) * e : Nat) : Int)) = ((min ((s + 1) * e) a.length : Nat) : Int) := by split <;> omega
    have p4 : (((s + 1 : Nat) : Int) - 1) = (s : Int) := by omega
    have hlen : l.length + (way a b (min ((s + 1) * e) a.length) j).length ≤ 1000 := by
      have h := congrArg List.length hl
      rw [List.length_append] at h
      have h3 := way_le a b a.length b.length (Nat.le_refl _) (Nat.le_refl _)
      omega
    have hseg := seg_loop k hk kind a b ha hb hx (e : Int) (j : Int) (s : Int) (keptL a b e c) l (s * e) (min ((s + 1) * e) a.length) hto (k + 5) (s * e) (by omega) (Nat.le_refl _) hft
    have hs1 : segL a b (s * e) (s * e - s * e + 1) = [rowW a b (s * e)] := by rw [Nat.sub_self]; rfl
    rw [hs1] at hseg
    obtain ⟨i', j', l', q1, q2, q3, q4, q5, q6⟩ := back_loop k kind a b ha hb (e : Int) (s : Int) (keptL a b e c) (s * e) (min ((s + 1) * e) a.length) hto (k + 5) (min ((s + 1) * e) a.length) j l (by omega) hft (Nat.le_refl _) hj hlen
    have hl' : l' ++ way a b (min (s * e) a.length) j' = way a b a.length b.length := by
      rw [← hl, ← q5, hmin]
      rcases q4 with q4 | q4
      · rw [q4]
      · rw [q4, way_zero2, way_zero2]
    obtain ⟨jj, ih⟩ := run_loop k kind a b hk hk2 ha hb hx e c he he2 hc1 hc2 s m j' l' (by omega) (by omega) (by omega) hl'
    have hw : IntKind.wrap .i64 ((s : Int) - 1) = (s : Int) - 1 := w64 (by omega) (by omega)
    refine ⟨jj, ?_⟩
    rw [j8_2]
    unfold F8_2
    dsimp only
    rw [p4, decide_eq_true (show (s : Int) ≥ 0 by omega), cond_true, p1, p2, p3, keptL_len, if_pos (by omega), Int.toNat_natCast, keptL_get a b e c s (by omega), hseg]
    simp only [Option.bind_some, onSum]
    rw [q6]
    simp only [Option.bind_some, onSum, hw]
    exact ih
/-- slices.Reverse. -/
theorem rev_loop (n : Nat) (l : List Pq) (hl : l.length ≤ 1000) : ∀ (m i j : Nat) (z : List Pq), j + 1 - i < m → i + j + 1 = l.length → i ≤ j + 1 → z.length = l.length → (∀ t, t < l.length → z.getD t (0, 0) = if t < i ∨ j < t then l.getD (l.length - 1 - t) (0, 0) else l.getD t (0, 0)) →
    ∃ p q, J28_0 n m ((i : Int), (j : Int), z) = some (.inl (p, q, l.reverse))
  | 0, i, j, z, h, _, _, _, _ => by omega
  | m + 1, i, j, z, hm, hij, hle, hz, hg => by
    have setD : ∀ (z : List Pq) (i j : Nat) (v : Pq), i < z.length → (z.set i v).getD j (0, 0) = if j = i then v else z.getD j (0, 0) := by
      intro z i j v hi
      rw [List.getD_eq_getElem?_getD, List.getElem?_set]
      by_cases h : i = j
      · subst h; rw [if_pos rfl, if_pos hi, if_pos rfl]; rfl
      · rw [if_neg h, if_neg (fun e => h e.symm), List.getD_eq_getElem?_getD]
    rw [j28_0]
    unfold F28_0
    dsimp only
    by_cases h : i < j
    · obtain ⟨j, rfl⟩ : ∃ j1, j = j1 + 1 := ⟨j - 1, by omega⟩
      rw [decide_eq_true (show (i : Int) < ((j + 1 : Nat) : Int) by omega), cond_true, if_pos (by omega), if_pos (by omega), if_pos (by omega), if_pos (by rw [List.length_set]; omega), inc' (by omega), dec' (by omega)]
      simp only [Int.toNat_natCast]
      refine rev_loop n l hl m (i + 1) j _ (by omega) (by omega) (by omega) (by simp [hz]) fun t ht => ?_
      rw [setD _ _ _ _ (by rw [List.length_set]; omega), setD _ _ _ _ (by omega)]
      have g1 := hg i (by omega)
      have g2 := hg (j + 1) (by omega)
      rw [if_neg (by omega)] at g1 g2
      by_cases c1 : t = j + 1
      · rw [if_pos c1, if_pos (by omega), g1, c1]
        congr 1; omega
      · rw [if_neg c1]
        by_cases c2 : t = i
        · rw [if_pos c2, if_pos (by omega), g2, c2]
          congr 1; omega
        · rw [if_neg c2, hg t ht]
          by_cases c3 : t < i ∨ j + 1 < t
          · rw [if_pos c3, if_pos (by omega)]
          · rw [if_neg c3, if_neg (by omega)]
    · rw [decide_eq_false (show ¬ (i : Int) < (j : Int) by omega), cond_false]
      refine ⟨(i : Int), (j : Int), ?_⟩
      have : z = l.reverse := by
        apply List.ext_getElem
        · simp [hz]
        · intro t h1 h2
          have g := hg t (by omega)
          rw [List.getD_eq_getElem?_getD, List.getElem?_eq_getElem h1] at g
          rw [List.getElem_reverse]
          have key : z[t] = l.getD (l.length - 1 - t) (0, 0) := by
            by_cases c3 : t < i ∨ j < t
            · rw [if_pos c3] at g; exact g
            · rw [if_neg c3] at g
              have e : l.length - 1 - t = t := by omega
              rw [e]; exact g
          rw [key, List.getD_eq_getElem?_getD, List.getElem?_eq_getElem (by omega)]
          rfl
      rw [this]
theorem rev_is (n : Nat) (l : List Pq) (hl : l.length ≤ 1000) (hn : l.length < n) : R28 (n + 1) l = some l.reverse := by
  rw [u28]
  unfold r28
  cases l with
  | nil =>
    obtain ⟨m, rfl⟩ : ∃ m, n = m + 1 := ⟨n - 1, by simp at hn; omega⟩
    have hw : IntKind.wrap .i64 ((([] : List Pq).length : Int) - 1) = -1 := by decide
    simp only [hw]
    rw [j28_0]
    rfl
  | cons p l =>
    have hw : IntKind.wrap .i64 (((p :: l).length : Int) - 1) = (l.length : Int) := by simp only [List.length_cons] at hl ⊢; exact dec' (by omega)
    simp only [hw]
    obtain ⟨x, y, h⟩ := rev_loop n (p :: l) hl n 0 l.length (p :: l) (by simp only [List.length_cons] at hn; omega) (by simp) (by omega) rfl (fun t ht => by rw [if_neg (by simp only [List.length_cons] at ht; omega)])
    have h' : J28_0 n n (0, (l.length : Int), p :: l) = _ := h
    rw [h']
    rfl
theorem steps_is (k : Nat) (n m : Nat) (hn : n ≤ 1000) (hm : m ≤ 1000) : R29 (k + 3) (n : Int) (m : Int) = some ((n * ((m + 63) / 64) : Nat) : Int) := by
  have his : ∀ x : Nat, x ≤ 1000 → R43 (k + 2) (x : Int) = some true := by
    intro x hx
    rw [u43]
    unfold r43
    dsimp only
    rw [decide_eq_true (show (x : Int) ≥ 0 by omega), decide_eq_true (show (x : Int) ≤ 1048576 by omega)]
    rfl
  have hb : n * ((m + 63) / 64) ≤ 1000 * 16 := Nat.mul_le_mul hn (by omega)
  rw [u29]
  unfold r29
  rw [his n hn, his m hm, vwords k m (by omega)]
  simp only [Option.bind_some]
  have hw : IntKind.wrap .i64 ((n : Int) * (((m + 63) / 64 : Nat) : Int)) = ((n * ((m + 63) / 64) : Nat) : Int) := by rw [← Int.natCast_mul, w64 (by omega) (by omega)]
  rw [hw]
  rfl
/-- What walk.Run tells. -/
theorem run_is (k : Nat) (kind e0 : Int) (a b : List Int) (hkd : kind = 0 ∨ kind = 1) (he : 1 ≤ e0) (hk : 20 < k) (hk2 : a.length + b.length < k) (ha : a.length ≤ 1000) (hb : b.length ≤ 1000) (hx : ∀ x ∈ a, inI64 x = true) (hy : ∀ x ∈ b, inI64 x = true) :
    R8 (k + 6) kind a b e0 = some ((way a b a.length b.length).reverse, ((2 * (a.length * ((b.length + 63) / 64)) : Nat) : Int), 0) := by
  have hnew : R23 (k + 5) b = some b := by
    show maskNew b = _
    unfold maskNew
    rw [decide_eq_true (show b.length < 17592186044416 by omega), List.all_eq_true.2 hy]
    rfl
  have hones : R24 (k + 5) (b.length : Int) = some (rowW a b 0) := by
    rw [ones_is (k + 1) b.length (by omega) (by omega)]; rfl
  have hst := steps_is (k + 2) a.length b.length ha hb
  have hbnd : a.length * ((b.length + 63) / 64) ≤ 1000 * 16 := Nat.mul_le_mul ha (by omega)
  have hst2 : IntKind.wrap .i64 ((2 : Int) * ((a.length * ((b.length + 63) / 64) : Nat) : Int)) = ((2 * (a.length * ((b.length + 63) / 64)) : Nat) : Int) := by
    rw [w64 (by omega) (by omega)]; omega
  have hwl := way_le a b a.length b.length (Nat.le_refl _) (Nat.le_refl _)
  have hrev := rev_is (k + 4) (way a b a.length b.length) (by omega) (by omega)
  obtain ⟨e, hev, he1, he2⟩ : ∃ e : Nat, (if (if (1 : Int) > (a.length : Int) then (1 : Int) else (a.length : Int)) < e0 then (if (1 : Int) > (a.length : Int) then (1 : Int) else (a.length : Int)) else e0) = (e : Int) ∧ 1 ≤ e ∧ e ≤ 1000 := by
    refine ⟨(if (if (1 : Int) > (a.length : Int) then (1 : Int) else (a.length : Int)) < e0 then (if (1 : Int) > (a.length : Int) then (1 : Int) else (a.length : Int)) else e0).toNat, ?_, ?_, ?_⟩ <;> (repeat' split) <;> omega
  obtain ⟨c, hc1, hc2, hkeep⟩ := keep_loop k hk kind a b ha hb hx e he1 he2 (k + 5) 0 0 (by omega) (by omega) (by omega) (by omega)
  have hcc : c ≤ c * e := Nat.le_mul_of_pos_right c (by omega)
  obtain ⟨j', hrun⟩ := run_loop k kind a b hk hk2 ha hb hx e c he1 he2 hc1 hc2 c (k + 5) b.length [] (Nat.le_refl _) (by
    by_cases h0 : a.length = 0
    · have : c * e < e := by omega
      have h2 : c < 1 := Nat.lt_of_mul_lt_mul_right (a := e) (by rw [Nat.one_mul]; exact this)
      omega
    · have h3 : c ≤ a.length := by
        have h4 : (c - 1) * e < a.length := by rw [Nat.sub_mul, Nat.one_mul]; omega
        have h5 : c - 1 ≤ (c - 1) * e := Nat.le_mul_of_pos_right _ (by omega)
        omega
      omega) (Nat.le_refl _) (by rw [List.nil_append, Nat.min_eq_right hc1])
  have hkl := keptL_len a b e c
  have hkw : IntKind.wrap .i64 ((c : Int) - 1) = (c : Int) - 1 := w64 (by omega) (by omega)
  have hkeep' : J8_1 (k + 5) (k + 5) (kind, a, b, (e : Int), b, rowW a b 0, a, (a.length : Int), 0, []) = some (.inl (kind, a, b, (e : Int), b, rowW a b a.length, a, (a.length : Int), (a.length : Int), keptL a b e c)) := hkeep
  rw [u8]
  unfold r8
  simp only [hnew, Option.bind_some, hones, hev]
  rw [hkeep']
  simp only [Option.bind_some, onSum, hkl, hkw]
  rw [hrun]
  simp only [Option.bind_some, onSum]
  rw [hrev]
  simp only [Option.bind_some]
  rw [hst]
  simp only [Option.bind_some, hst2]
  rw [decide_eq_false (show ¬ e0 < 1 by omega)]
  rcases hkd with rfl | rfl <;> rfl
end Go.Proofs.Ytbbbcdfagmcfgaa.EWalkRuns
