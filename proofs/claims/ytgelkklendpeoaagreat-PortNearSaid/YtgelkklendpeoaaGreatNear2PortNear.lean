import Derived.Test.YtgelkklendpeoaaGreatNearPortNear
namespace Go.Proofs.YtgelkklendpeoaaGreat.EPortNear
open Go Go.RowKit Go.Proofs.YtgelkklendpeoaaGreat.AE Go.Proofs.YtgelkklendpeoaaGreat Go.Proofs.YtgelkklendpeoaaGreat.Lcs Go.Proofs.YtgelkklendpeoaaGreat.BandN
set_option linter.unusedVariables false
set_option linter.unusedSimpArgs false
/-! The walls of the band; the band's rows; the distance up to a bound. -/
def moreE (n m : Nat) (k : Int) : Int := (k - max ((n : Int) - (m : Int)) ((m : Int) - (n : Int))) / 2
def loE (n m : Nat) (k : Int) : Int := max (-(m : Int)) (min ((n : Int) - (m : Int)) 0 - min (m : Int) (moreE n m k))
def hiE (n m : Nat) (k : Int) : Int := min (max ((n : Int) - (m : Int)) 0 + min (n : Int) (moreE n m k)) (n : Int)
def bandE (n m : Nat) (k : Int) (hn : n ≤ 1000) (hm : m ≤ 1000) (h : (n : Int) - (m : Int) ≤ k ∧ (m : Int) - (n : Int) ≤ k) : Band where
  n := n
  m := m
  k := k
  lo := loE n m k
  hi := hiE n m k
  hk := h
  inb := fun i j h1 h2 h3 h4 D d1 d2 d3 d4 => by unfold loE hiE moreE; omega
  lo0 := by unfold loE moreE; omega
  hi0 := by unfold hiE moreE; omega
  low := by unfold loE hiE moreE; omega
  small := by unfold loE hiE moreE; omega
theorem edges_is (N n m : Nat) (k : Int) (hn : n ≤ 1000) (hm : m ≤ 1000) (hk0 : 0 ≤ k) (hk1 : k ≤ 9223372036854775807) :
    R24 (N + 1) (n : Int) (m : Int) k = some (if (n : Int) - (m : Int) ≤ k ∧ (m : Int) - (n : Int) ≤ k then (loE n m k, hiE n m k, true) else (0, 0, false)) := by
  rw [u24]
  unfold r24
  simp only
  rw [w64 (show -9223372036854775808 ≤ (n : Int) - (m : Int) by omega) (by omega), w64 (show -9223372036854775808 ≤ 0 - ((n : Int) - (m : Int)) by omega) (by omega)]
  have e1 : (if 0 - ((n : Int) - (m : Int)) > (n : Int) - (m : Int) then 0 - ((n : Int) - (m : Int)) else (n : Int) - (m : Int)) = max ((n : Int) - (m : Int)) ((m : Int) - (n : Int)) := by split <;> omega
  rw [e1]
  by_cases c : (n : Int) - (m : Int) ≤ k ∧ (m : Int) - (n : Int) ≤ k
  · rw [if_pos c, decide_eq_false (by omega), cond_false]
    rw [w64 (show -9223372036854775808 ≤ k - max ((n : Int) - (m : Int)) ((m : Int) - (n : Int)) by omega) (by omega), if_neg (by decide)]
    have e2 : (k - max ((n : Int) - (m : Int)) ((m : Int) - (n : Int))).tdiv 2 = moreE n m k := by rw [Int.tdiv_eq_ediv_of_nonneg (by omega)]; rfl
    have hm0 : 0 ≤ moreE n m k ∧ moreE n m k ≤ 9223372036854775807 := by unfold moreE; omega
    rw [e2]
    unfold loE hiE
    generalize moreE n m k = q at *
    rw [w64 (show -9223372036854775808 ≤ q by omega) (by omega), w64 (show -9223372036854775808 ≤ 0 - (m : Int) by omega) (by omega)]
    have e3 : (if (n : Int) - (m : Int) < 0 then (n : Int) - (m : Int) else 0) = min ((n : Int) - (m : Int)) 0 := by split <;> omega
    have e4 : (if (m : Int) < q then (m : Int) else q) = min (m : Int) q := by split <;> omega
    have e5 : (if (n : Int) - (m : Int) > 0 then (n : Int) - (m : Int) else 0) = max ((n : Int) - (m : Int)) 0 := by split <;> omega
    have e6 : (if (n : Int) < q then (n : Int) else q) = min (n : Int) q := by split <;> omega
    rw [e3, e4, e5, e6, w64 (show -9223372036854775808 ≤ min ((n : Int) - (m : Int)) 0 - min (m : Int) q by omega) (by omega), w64 (show -9223372036854775808 ≤ max ((n : Int) - (m : Int)) 0 + min (n : Int) q by omega) (by omega)]
    have e7 : (if min ((n : Int) - (m : Int)) 0 - min (m : Int) q > 0 - (m : Int) then min ((n : Int) - (m : Int)) 0 - min (m : Int) q else 0 - (m : Int)) = max (-(m : Int)) (min ((n : Int) - (m : Int)) 0 - min (m : Int) q) := by split <;> omega
    have e8 : (if max ((n : Int) - (m : Int)) 0 + min (n : Int) q < (n : Int) then max ((n : Int) - (m : Int)) 0 + min (n : Int) q else (n : Int)) = min (max ((n : Int) - (m : Int)) 0 + min (n : Int) q) (n : Int) := by split <;> omega
    rw [e7, e8]
  · rw [if_neg c, decide_eq_true (by omega), cond_true]
theorem nextR (N : Nat) (a b : List Int) (i lo hi f : Int) (d : List Int) : R25 (N + 1) a b i lo hi (f, d) = PV.band_next.f 4000 a b i lo hi f d := rfl
theorem rows_loop (N : Nat) (a b : List Int) (k : Int) (B : Band) (hn : B.n = a.length) (hm : B.m = b.length) (ha : a.length ≤ 1000) (hb : b.length ≤ 1000) : ∀ (m i : Nat) (f : Int) (d : List Int), a.length + 1 - i < m → i ≤ a.length + 1 →
    -1099511627776 ≤ f → f ≤ 1099511627776 → d.length ≤ 1099511627776 → (i = 0 → d = []) → (∀ i', i = i' + 1 → Row a b B i' (lst B i' + 1) f d) →
    ∃ d1, Row a b B a.length (lst B a.length + 1) (fst B a.length) d1 ∧ J11_0 (N + 1) m (a, b, k, B.lo, B.hi, ((a.length + 1 : Nat) : Int), (i : Int), (f, d)) = some (.inl (a, b, k, B.lo, B.hi, ((a.length + 1 : Nat) : Int), ((a.length + 1 : Nat) : Int), (fst B a.length, d1)))
  | 0, i, f, d, h, _, _, _, _, _, _ => by omega
  | m + 1, i, f, d, h, hi, hf1, hf2, hd, h0, h1 => by
    rw [j11_0]
    unfold F11_0
    simp only
    by_cases c : i < a.length + 1
    · obtain ⟨d1, q1, q2⟩ := next_is a b B hn hm ha hb i (by omega) f d hf1 hf2 hd h0 h1
      have hl := q1.len
      have hle := fst_le B (i := i) (by omega)
      have hup : lst B i ≤ (b.length : Int) := by unfold lst; omega
      simp only [decide_eq_true (show (i : Int) < ((a.length + 1 : Nat) : Int) by omega), cond_true, nextR, q2, Option.bind_some, succ_k c (show a.length + 1 ≤ 1099511627776 by omega)]
      have hfi : fst B i ≤ 1099511627776 := by have := B.hi0; unfold fst; omega
      exact rows_loop N a b k B hn hm ha hb m (i + 1) (fst B i) d1 (by omega) (by omega) (by omega) hfi (by omega) (fun h => by omega) (fun i' hi' => by
        obtain rfl : i' = i := by omega
        exact q1)
    · obtain rfl : i = a.length + 1 := by omega
      have hR := h1 a.length rfl
      refine ⟨d, by rw [hR.first] at hR; exact hR, ?_⟩
      simp only [decide_eq_false (show ¬ (((a.length + 1 : Nat) : Int)) < ((a.length + 1 : Nat) : Int) by omega), cond_false]
      rw [hR.first]
theorem atR (N : Nat) (f : Int) (d : List Int) (j : Int) (h1 : -1099511627776 ≤ f) (h2 : f ≤ 1099511627776) (h3 : -1099511627776 ≤ j) (h4 : j ≤ 1099511627776) (h5 : d.length ≤ 1099511627776) : R26 (N + 1) (f, d) j = some (atL f d j) := by
  rw [u26]
  unfold r26 atL
  simp only
  rw [w64 (show -9223372036854775808 ≤ f + (d.length : Int) by omega) (by omega), w64 (show -9223372036854775808 ≤ j - f by omega) (by omega)]
  by_cases c : j < f
  · rw [decide_eq_true c, if_pos c]; rfl
  · rw [decide_eq_false c, if_neg c]
    by_cases c2 : j ≥ f + (d.length : Int)
    · rw [decide_eq_true c2, if_pos c2]; rfl
    · rw [decide_eq_false c2, if_neg c2, if_pos (by omega)]; rfl
theorem cells_loop (N : Nat) (x y hi : Int) (hhi : hi ≤ 1099511627776) : ∀ (m : Nat) (d s : Int), hi + 1 - d < (m : Int) → -1099511627776 ≤ d → d ≤ hi + 1 → ∃ s' d', J27_0 N m (x, y, hi, s, d) = some (.inl (x, y, hi, s', d'))
  | 0, d, s, h, _, h2 => by omega
  | m + 1, d, s, h, h1, h2 => by
    rw [j27_0]
    unfold F27_0
    simp only
    by_cases c : d ≤ hi
    · rw [decide_eq_true c, cond_true]
      have w : IntKind.wrap .i64 (d + 1) = d + 1 := w64 (by omega) (by omega)
      rw [w]
      exact cells_loop N x y hi hhi m (d + 1) _ (by omega) (by omega) (by omega)
    · rw [decide_eq_false c, cond_false]
      exact ⟨s, d, rfl⟩
theorem isR (N n : Nat) (hn : n ≤ 1000) : R57 (N + 1) (n : Int) = some true := by
  rw [u57]
  unfold r57
  simp only [decide_eq_true (show (n : Int) ≥ 0 by omega), beq_self_eq_true, cond_true, decide_eq_true (show (n : Int) ≤ 1048576 by omega)]
theorem cells_is (N n m : Nat) (k : Int) (hn : n ≤ 1000) (hm : m ≤ 1000) (hk0 : 0 ≤ k) (hk1 : k ≤ 9223372036854775807) (hN : 3000 < N) (h : (n : Int) - (m : Int) ≤ k ∧ (m : Int) - (n : Int) ≤ k) : ∃ c, R27 (N + 2) (n : Int) (m : Int) k = some c := by
  have hlo : -1000 ≤ loE n m k ∧ hiE n m k ≤ 1000 ∧ loE n m k ≤ hiE n m k + 1 := by unfold loE hiE moreE; omega
  obtain ⟨s', d', e⟩ := cells_loop (N + 1) (n : Int) (m : Int) (hiE n m k) (by omega) (N + 1) (loE n m k) 0 (by omega) (by omega) (by omega)
  rw [u27]
  unfold r27
  rw [isR N n hn, isR N m hm, edges_is N n m k hn hm hk0 hk1, if_pos h]
  simp only [Option.bind_some, Bool.not_true, beq_self_eq_true, cond_true, cond_false, decide_eq_false (show ¬ k < 0 by omega), e, onSum]
  exact ⟨_, rfl⟩
/-- The distance, if it is not above a bound. -/
theorem Within_is (N : Nat) (a b : List Int) (k : Int) (ha : a.length ≤ 1000) (hb : b.length ≤ 1000) (hk0 : 0 ≤ k) (hk1 : k ≤ 9223372036854775807) (hN : 3000 < N) :
    ∃ s, R11 (N + 3) a b k = some (if (a.length : Int) + (b.length : Int) - 2 * (lcs a b : Int) ≤ k then ((a.length : Int) + (b.length : Int) - 2 * (lcs a b : Int), s, 0) else (0, 0, 3)) := by
  have hD : dI a b a.length b.length = (a.length : Int) + (b.length : Int) - 2 * (lcs a b : Int) := by unfold dI; rw [tabF_corner]
  have hfar := dI_far a b a.length b.length
  rw [hD] at hfar
  rw [u11]
  unfold r11
  rw [decide_eq_false (show ¬ k < 0 by omega), cond_false]
  simp only
  rw [edges_is (N + 1) a.length b.length k ha hb hk0 hk1, Option.bind_some]
  by_cases c : (a.length : Int) - (b.length : Int) ≤ k ∧ (b.length : Int) - (a.length : Int) ≤ k
  · rw [if_pos c]
    simp only [Bool.not_true, cond_false]
    have wn : IntKind.wrap .i64 ((a.length : Int) + 1) = ((a.length + 1 : Nat) : Int) := by rw [w64 (by omega) (by omega)]; omega
    obtain ⟨d1, q1, q2⟩ := rows_loop (N + 1) a b k (bandE a.length b.length k ha hb c) rfl rfl ha hb (N + 2) 0 0 [] (by omega) (by omega) (by omega) (by omega) (by simp) (fun _ => rfl) (fun i' h => by omega)
    have q2 : J11_0 (N + 2) (N + 2) (a, b, k, loE a.length b.length k, hiE a.length b.length k, ((a.length + 1 : Nat) : Int), 0, (0, [])) = _ := q2
    have hl := q1.len
    have hle := fst_le (bandE a.length b.length k ha hb c) (i := a.length) (Nat.le_refl _)
    have hlow := (bandE a.length b.length k ha hb c).low
    have hc1 : fst (bandE a.length b.length k ha hb c) a.length ≤ (b.length : Int) := by
      have h1 : ((bandE a.length b.length k ha hb c).n : Int) = a.length := rfl
      have h2 : ((bandE a.length b.length k ha hb c).m : Int) = b.length := rfl
      unfold fst; omega
    have hc2 : lst (bandE a.length b.length k ha hb c) a.length = (b.length : Int) := by
      have h1 : ((bandE a.length b.length k ha hb c).n : Int) = a.length := rfl
      have h2 : ((bandE a.length b.length k ha hb c).m : Int) = b.length := rfl
      unfold lst; omega
    have hcell := at_in q1 b.length hc1 (by omega)
    rw [wn, q2]
    simp only [Option.bind_some, onSum]
    rw [atR (N + 1) _ d1 (b.length : Int) (by omega) (by omega) (by omega) (by omega) (by omega), Option.bind_some]
    obtain ⟨g1, g2, g3⟩ := hcell
    rw [hD] at g1 g3
    have h1 : ((bandE a.length b.length k ha hb c).n : Int) = a.length := rfl
    have h2 : ((bandE a.length b.length k ha hb c).m : Int) = b.length := rfl
    have h3 : (bandE a.length b.length k ha hb c).k = k := rfl
    rw [h1, h2, h3] at g3
    obtain ⟨cc, ec⟩ := cells_is N a.length b.length k ha hb hk0 hk1 hN c
    by_cases cd : (a.length : Int) + (b.length : Int) - 2 * (lcs a b : Int) ≤ k
    · have g3 := g3 (by omega) (by omega)
      rw [g3, decide_eq_true cd, cond_true, ec, Option.bind_some]
      exact ⟨cc, by rw [if_pos cd]⟩
    · rw [decide_eq_false (by omega), cond_false]
      exact ⟨0, by rw [if_neg cd]⟩
  · rw [if_neg c]
    refine ⟨0, ?_⟩
    rw [if_neg (by omega)]
    rfl
end Go.Proofs.YtgelkklendpeoaaGreat.EPortNear
