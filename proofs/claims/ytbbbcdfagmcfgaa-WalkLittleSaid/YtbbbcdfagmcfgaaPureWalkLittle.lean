import Derived.Test.YtbbbcdfagmcfgaaResKit
import Derived.Test.YtbbbcdfagmcfgaaResWalkLittle
namespace Go.Proofs.Ytbbbcdfagmcfgaa.EWalkLittle
open Go Go.Proofs.Ytbbbcdfagmcfgaa.AE
set_option linter.unusedVariables false
set_option linter.unusedSimpArgs false
/-! Which rows are kept: 0, and the multiples below. -/
def mult (e m : Nat) : List Int := 0 :: ((List.range m).filter fun i => decide (0 < i) && decide (i % e = 0)).map Int.ofNat
theorem mult_succ (e m : Nat) : mult e (m + 1) = mult e m ++ (if 0 < m ∧ m % e = 0 then [(m : Int)] else []) := by
  unfold mult
  rw [List.range_succ, List.filter_append, List.map_append, List.cons_append]
  congr 2
  by_cases h : 0 < m ∧ m % e = 0
  · rw [if_pos h]; simp [h.1, h.2]
  · rw [if_neg h]
    have : (decide (0 < m) && decide (m % e = 0)) = false := by
      rw [Bool.and_eq_false_iff]
      by_cases h1 : 0 < m
      · right; simp; exact fun h2 => h ⟨h1, h2⟩
      · left; simpa using h1
    simp [this]
theorem mult_skip (e m : Nat) : ∀ d, (∀ i, m ≤ i → i < m + d → ¬ (0 < i ∧ i % e = 0)) → mult e (m + d) = mult e m
  | 0, _ => rfl
  | d + 1, h => by
    rw [← Nat.add_assoc, mult_succ, if_neg (h (m + d) (by omega) (by omega)), List.append_nil]
    exact mult_skip e m d fun i h1 h2 => h i h1 (by omega)
theorem mult_to (e m m' : Nat) (hm : m ≤ m') (h : ∀ i, m ≤ i → i < m' → ¬ (0 < i ∧ i % e = 0)) : mult e m' = mult e m := by
  obtain ⟨d, rfl⟩ : ∃ d, m' = m + d := ⟨m' - m, by omega⟩
  exact mult_skip e m d h
theorem mult_len (e m : Nat) : (mult e m).length ≤ m + 1 := by
  unfold mult
  have := List.length_filter_le (fun i => decide (0 < i) && decide (i % e = 0)) (List.range m)
  simp at this ⊢
  omega
theorem below (e q j : Nat) (h : j % e = 0) (hj : j < q * e) : j + e ≤ q * e := by
  obtain ⟨t, rfl⟩ := Nat.dvd_of_mod_eq_zero h
  have ht : t < q := by
    rcases Nat.lt_or_ge t q with h1 | h1
    · exact h1
    · have := Nat.mul_le_mul_right e h1
      rw [Nat.mul_comm t e] at this
      omega
  have := Nat.mul_le_mul_right e (show t + 1 ≤ q from ht)
  rw [Nat.add_mul, Nat.one_mul, Nat.mul_comm t e] at this
  exact this
theorem is_ (k : Nat) (a : Int) : R30 (k + 1) a = some (decide (0 ≤ a ∧ a ≤ 1048576)) := by
  show r30 a = _
  unfold r30
  by_cases h : a ≥ 0
  · simp [h, show (0 : Int) ≤ a from h]
  · simp [h]
theorem kept_loop (f : Int → Option Bool) (N E : Nat) (hN : N ≤ 1048576) (hE : 1 ≤ E) : ∀ (m : Nat) (q : Nat), 1 ≤ q → (q * E < N + E ∨ q = 1) → N - q * E < m →
    ∃ z, iter (F10_0 f) m ((N : Int), (E : Int), ((q * E : Nat) : Int), mult E (q * E)) = some (.inl z) ∧ z.2.2.2 = mult E N
  | 0, q, _, _, h => by omega
  | m + 1, q, hq, hlt, h => by
    show ∃ z, F10_0 f (iter (F10_0 f) m) _ = some (.inl z) ∧ _
    unfold F10_0
    simp only
    by_cases c : q * E < N
    · have hc : decide (((q * E : Nat) : Int) < (N : Int)) = true := decide_eq_true (by omega)
      have hl := mult_len E (q * E)
      rw [hc, cond_true, if_pos (by simp only [List.length_cons, List.length_nil]; omega)]
      have e1 : IntKind.wrap .i64 (((q * E : Nat) : Int) + (E : Int)) = (((q + 1) * E : Nat) : Int) := by
        have hEN : E ≤ q * E := by
          have := Nat.mul_le_mul_right E hq
          omega
        rw [w64 (by omega) (by omega), Nat.add_mul, Nat.one_mul]; omega
      have e2 : mult E (q * E) ++ [((q * E : Nat) : Int)] = mult E ((q + 1) * E) := by
        have h0 : 0 < q * E := Nat.mul_pos hq hE
        rw [mult_to E (q * E + 1) ((q + 1) * E) (by rw [Nat.add_mul]; omega) (fun i h1 h2 ⟨h3, h4⟩ => by
          have := below E (q + 1) i h4 h2
          rw [Nat.add_mul] at this; omega), mult_succ, if_pos ⟨h0, Nat.mul_mod_left q E⟩]
      rw [e1, e2]
      have hqE : (q + 1) * E = q * E + E := by rw [Nat.add_mul, Nat.one_mul]
      exact kept_loop f N E hN hE m (q + 1) (by omega) (by left; omega) (by omega)
    · have hc : decide (((q * E : Nat) : Int) < (N : Int)) = false := decide_eq_false (by omega)
      rw [hc, cond_false]
      refine ⟨_, rfl, mult_to E N (q * E) (by omega) fun i h1 h2 ⟨h3, h4⟩ => ?_⟩
      have := below E q i h4 h2
      rcases hlt with h5 | h5
      · omega
      · subst h5; omega
theorem kept_walk (k : Nat) (n e : Int) (hk : n.toNat + 1 ≤ k ∨ 1048576 < n) (he : e ≤ 9223372036854775807) : R10 (k + 2) n e = some (if 0 ≤ n ∧ n ≤ 1048576 ∧ 1 ≤ e then mult e.toNat n.toNat else []) := by
  show r10 (R30 (k + 1)) (iter (F10_0 (R30 (k + 1))) (k + 1)) n e = _
  unfold r10
  rw [is_]
  by_cases h : 0 ≤ n ∧ n ≤ 1048576
  · by_cases h2 : e < 1
    · have : ¬ (0 ≤ n ∧ n ≤ 1048576 ∧ 1 ≤ e) := by omega
      rw [if_neg this]
      simp [h, h2]
    · obtain ⟨N, rfl⟩ := Int.eq_ofNat_of_zero_le h.1
      obtain ⟨E, rfl⟩ := Int.eq_ofNat_of_zero_le (show 0 ≤ e by omega)
      obtain ⟨z, hz, hl⟩ := kept_loop (R30 (k + 1)) N E (by omega) (by omega) (k + 1) 1 (by omega) (.inr rfl) (by omega)
      have e0 : mult E (1 * E) = [0] := by
        rw [Nat.one_mul, mult_to E 0 E (by omega) fun i h1 h3 ⟨h4, h5⟩ => by
          rw [Nat.mod_eq_of_lt h3] at h5; omega]
        rfl
      rw [e0, Nat.one_mul] at hz
      have h3 : (0 ≤ (N : Int) ∧ (N : Int) ≤ 1048576 ∧ 1 ≤ (E : Int)) := by omega
      rw [if_pos h3]
      simp only [Option.bind_some, decide_eq_true h, Bool.not_true, BEq.rfl, cond_true, decide_eq_false h2, cond_false]
      rw [hz]
      simp [onSum, hl]
  · have : ¬ (0 ≤ n ∧ n ≤ 1048576 ∧ 1 ≤ e) := by omega
    rw [if_neg this]
    simp [decide_eq_false h]
theorem words_walk (k : Nat) (m : Int) (h0 : 0 ≤ m) (h1 : m ≤ 1048576) : R31 (k + 2) m = some ((m + 63) / 64) := by
  show r31 (R44 (k + 1)) m = _
  have e : R44 (k + 1) m = some m := by
    show r44 m = _
    unfold r44
    have h2 : ¬ (0 : Int) > m := by omega
    have h3 : ¬ (1048576 : Int) < m := by omega
    simp [h2, h3]
  unfold r31
  rw [e]
  simp only [Option.bind_some]
  have e1 : IntKind.wrap .i64 (m + 64) = m + 64 := w64 (by omega) (by omega)
  have e2 : IntKind.wrap .i64 (m + 64 - 1) = m + 63 := by rw [w64 (by omega) (by omega)]; omega
  have e3 : IntKind.wrap .i64 ((m + 63) / 64) = (m + 63) / 64 := w64 (by omega) (by omega)
  rw [e1, e2, Int.tdiv_eq_ediv_of_nonneg (by omega), e3, if_neg (by decide)]
theorem root_loop (x : Int) (hx : x ≤ 1048576) : ∀ (m : Nat) (r : Nat), 1 ≤ r → r ≤ 1024 → 1024 - r < m → (r = 1 ∨ ((r : Int) - 1) * ((r : Int) - 1) < x) →
    ∃ r' : Nat, iter F13_0 m (x, (r : Int)) = some (.inl (x, (r' : Int))) ∧ 1 ≤ r' ∧ r' ≤ 1024 ∧ x ≤ (r' : Int) * (r' : Int) ∧ (r' = 1 ∨ ((r' : Int) - 1) * ((r' : Int) - 1) < x)
  | 0, r, _, _, h, _ => by omega
  | m + 1, r, h1, h2, h3, h4 => by
    show ∃ r' : Nat, F13_0 (iter F13_0 m) _ = _ ∧ _
    unfold F13_0
    simp only
    have hb : (r : Int) * (r : Int) ≤ 1048576 := by
      have := Nat.mul_le_mul h2 h2
      have h5 : ((r * r : Nat) : Int) ≤ ((1024 * 1024 : Nat) : Int) := by omega
      rw [Int.natCast_mul] at h5
      exact h5
    have h0 : (0 : Int) ≤ (r : Int) * (r : Int) := Int.mul_nonneg (by omega) (by omega)
    rw [w64 (by omega) (by omega)]
    by_cases c : (r : Int) * (r : Int) < x
    · rw [decide_eq_true c, cond_true, w64 (by omega) (by omega)]
      have hr : r < 1024 := by
        rcases Nat.lt_or_ge r 1024 with h | h
        · exact h
        · have : r = 1024 := by omega
          subst this
          have : ((1024 : Nat) : Int) * ((1024 : Nat) : Int) = 1048576 := by decide
          omega
      have := root_loop x hx m (r + 1) (by omega) (by omega) (by omega) (by
        right
        have : ((r + 1 : Nat) : Int) - 1 = (r : Int) := by omega
        rw [this]; exact c)
      exact this
    · rw [decide_eq_false c, cond_false]
      exact ⟨r, rfl, h1, h2, by omega, h4⟩
theorem root_walk (k : Nat) (n : Int) (hk : 1024 ≤ k) : ∃ r : Nat, R13 (k + 1) n = some (r : Int) ∧ 1 ≤ r ∧ r ≤ 1024 ∧ (n ≤ 1048576 → n ≤ (r : Int) * (r : Int) ∧ (r = 1 ∨ ((r : Int) - 1) * ((r : Int) - 1) < n)) := by
  show ∃ r : Nat, r13 (iter F13_0 k) n = _ ∧ _
  unfold r13
  obtain ⟨r', h1, h2, h3, h4, h5⟩ := root_loop (if (1048576 : Int) < n then 1048576 else n) (by split <;> omega) k 1 (by omega) (by omega) (by omega) (.inl rfl)
  have h1' : iter F13_0 k (if (1048576 : Int) < n then 1048576 else n, 1) = _ := h1
  refine ⟨r', by simp [h1', onSum], h2, h3, fun hn => ?_⟩
  rw [if_neg (by omega)] at h4 h5
  exact ⟨h4, h5⟩
theorem awake : R9 2100 () = some true := by kernel_rfl
theorem mult_mono (e m m' : Nat) (h : m ≤ m') : (mult e m).length ≤ (mult e m').length := by
  obtain ⟨d, rfl⟩ : ∃ d, m' = m + d := ⟨m' - m, by omega⟩
  induction d with
  | zero => exact Nat.le_refl _
  | succ d ih =>
    rw [← Nat.add_assoc, mult_succ, List.length_append]
    have := ih (by omega)
    omega
/-- So many multiples below q times e. -/
theorem mult_count (e : Nat) (he : 1 ≤ e) : ∀ q, 1 ≤ q → (mult e (q * e)).length = q
  | 0, h => by omega
  | 1, _ => by
    rw [Nat.one_mul, mult_to e 0 e (by omega) fun i h1 h3 ⟨h4, h5⟩ => by
      rw [Nat.mod_eq_of_lt h3] at h5; omega]
    rfl
  | q + 2, _ => by
    have ih := mult_count e he (q + 1) (by omega)
    have h0 : 0 < (q + 1) * e := Nat.mul_pos (by omega) he
    rw [mult_to e ((q + 1) * e + 1) ((q + 2) * e) (by rw [Nat.add_mul (q + 1) 1 e]; omega) (fun i h1 h2 ⟨h3, h4⟩ => by
      have := below e (q + 2) i h4 h2
      rw [Nat.add_mul (q + 1) 1 e] at this; omega), mult_succ, if_pos ⟨h0, Nat.mul_mod_left (q + 1) e⟩, List.length_append, ih]
    rfl
theorem mult_pos (e m : Nat) : 1 ≤ (mult e m).length := by simp [mult]
/-- The room, where a root's number is kept. -/
theorem room (k : Nat) (x y r : Nat) (hk : x + 1 ≤ k) (hx : x ≤ 2000) (hy : y ≤ 2000) (h1 : 1 ≤ r) (h2 : r ≤ 1024) (h3 : x ≤ r * r) :
    ∃ s : Nat, R12 (k + 3) (x : Int) (y : Int) (r : Int) = some (((s * ((y + 63) / 64) : Nat) : Int)) ∧ 1 ≤ s ∧ s ≤ 2 * r := by
  show ∃ s : Nat, r12 (R10 (k + 2)) (R30 (k + 2)) (R31 (k + 2)) (x : Int) (y : Int) (r : Int) = _ ∧ _
  unfold r12
  rw [is_, kept_walk k (x : Int) (r : Int) (by omega) (by omega), if_pos (by omega), words_walk k (y : Int) (by omega) (by omega)]
  have hc1 := mult_pos r x
  have hc2 : (mult r x).length ≤ r := by
    have := mult_mono r x (r * r) h3
    rw [mult_count r h1 r h1] at this
    exact this
  simp only [Int.toNat_natCast, Option.bind_some]
  generalize (mult r x).length = c at *
  have hy' : (0 ≤ (y : Int) ∧ (y : Int) ≤ 1048576) := by omega
  have hc0 : ¬ (c : Int) = 0 := by omega
  simp only [decide_eq_true hy', Bool.not_true, cond_false, decide_eq_false hc0]
  have hmin : (if (x : Int) < (r : Int) then (x : Int) else (r : Int)) = ((min x r : Nat) : Int) := by split <;> omega
  rw [hmin]
  have e1 : IntKind.wrap .i64 ((c : Int) + ((min x r : Nat) : Int)) = ((c + min x r : Nat) : Int) := by rw [w64 (by omega) (by omega)]; omega
  have e2 : ((y : Int) + 63) / 64 = (((y + 63) / 64 : Nat) : Int) := by omega
  rw [e1, e2]
  have hw : (y + 63) / 64 ≤ 32 := by omega
  have hs : (c + min x r) * ((y + 63) / 64) ≤ 2048 * 32 := Nat.mul_le_mul (by omega) hw
  have e3 : IntKind.wrap .i64 (((c + min x r : Nat) : Int) * (((y + 63) / 64 : Nat) : Int)) = (((c + min x r) * ((y + 63) / 64) : Nat) : Int) := by
    rw [← Int.natCast_mul, w64 (by omega) (by omega)]
  rw [e3]
  exact ⟨c + min x r, rfl, by omega, by omega⟩
theorem law (a0 a1 : Int) (w0 : WF (.int .u16) a0) (w1 : WF (.int .u16) a1) : R7 2101 a0 a1 = some true := by
  show r7 (R9 2100) (R12 2100) (R13 2100) a0 a1 = _
  obtain ⟨p0, q0⟩ := wf_u16 w0
  obtain ⟨p1, q1⟩ := wf_u16 w1
  unfold r7
  rw [awake]
  have f1 : IntKind.wrap .i64 a0 = a0 := w64 (by omega) (by omega)
  have f2 : IntKind.wrap .i64 a1 = a1 := w64 (by omega) (by omega)
  simp only [Option.bind_some, Bool.not_true, cond_false, f1, f2]
  rw [if_neg (by decide), if_neg (by decide), Int.tmod_eq_emod_of_nonneg p0, Int.tmod_eq_emod_of_nonneg p1]
  obtain ⟨x, hx⟩ := Int.eq_ofNat_of_zero_le (show 0 ≤ a0 % 2001 by omega)
  obtain ⟨y, hy⟩ := Int.eq_ofNat_of_zero_le (show 0 ≤ a1 % 2001 by omega)
  have bx : x ≤ 2000 := by omega
  have by_ : y ≤ 2000 := by omega
  rw [hx, hy]
  clear hx hy f1 f2 p0 q0 p1 q1 w0 w1
  obtain ⟨r, g1, g2, g3, g4⟩ := root_walk 2099 (x : Int) (by omega)
  obtain ⟨g5, g6⟩ := g4 (by omega)
  have g5' : x ≤ r * r := by
    rw [← Int.natCast_mul] at g5
    omega
  obtain ⟨s, h1, h2, h3⟩ := room 2097 x y r (by omega) bx by_ g2 g3 g5'
  rw [g1]
  simp only [Option.bind_some, h1]
  have hrr : r * r ≤ 1024 * 1024 := Nat.mul_le_mul g3 g3
  have e1 : IntKind.wrap .i64 ((r : Int) * (r : Int)) = ((r * r : Nat) : Int) := by rw [← Int.natCast_mul, w64 (by omega) (by omega)]
  have e2 : IntKind.wrap .i64 ((r : Int) - 1) = (r : Int) - 1 := w64 (by omega) (by omega)
  have e3 : IntKind.wrap .i64 ((y : Int) + 63) = (y : Int) + 63 := w64 (by omega) (by omega)
  have e4 : IntKind.wrap .i64 (((y : Int) + 63).tdiv 64) = (((y + 63) / 64 : Nat) : Int) := by
    rw [Int.tdiv_eq_ediv_of_nonneg (by omega), w64 (by omega) (by omega)]; omega
  have e5 : IntKind.wrap .i64 (2 * (r : Int)) = 2 * (r : Int) := w64 (by omega) (by omega)
  have e6 : IntKind.wrap .i64 (2 * (r : Int) + 1) = ((2 * r + 1 : Nat) : Int) := by rw [w64 (by omega) (by omega)]; omega
  have hw : (y + 63) / 64 ≤ 32 := by omega
  have hs2 : (2 * r + 1) * ((y + 63) / 64) ≤ 2049 * 32 := Nat.mul_le_mul (by omega) hw
  have e7 : IntKind.wrap .i64 (((2 * r + 1 : Nat) : Int) * (((y + 63) / 64 : Nat) : Int)) = (((2 * r + 1) * ((y + 63) / 64) : Nat) : Int) := by rw [← Int.natCast_mul, w64 (by omega) (by omega)]
  have hlo : (((s * ((y + 63) / 64) : Nat) : Int)) ≥ (((y + 63) / 64 : Nat) : Int) := by
    have := Nat.mul_le_mul_right ((y + 63) / 64) h2
    omega
  have hhi : (((s * ((y + 63) / 64) : Nat) : Int)) ≤ (((2 * r + 1) * ((y + 63) / 64) : Nat) : Int) := by
    have := Nat.mul_le_mul_right ((y + 63) / 64) (show s ≤ 2 * r + 1 by omega)
    omega
  have d1 : decide ((r : Int) ≥ 1) = true := decide_eq_true (by omega)
  have d2 : decide (((r * r : Nat) : Int) ≥ (x : Int)) = true := decide_eq_true (by omega)
  have neg64 : ¬ ((64 : Int) = 0) := by decide
  simp only [d1, e1, e2, e3, e4, e5, e6, e7, d2, BEq.rfl, cond_true, decide_eq_true hlo, decide_eq_true hhi, if_neg neg64]
  by_cases hr1 : r = 1
  · subst hr1
    rfl
  · have hr : ¬ (r : Int) = 1 := by omega
    have e8 : IntKind.wrap .i64 (((r : Int) - 1) * ((r : Int) - 1)) = ((r : Int) - 1) * ((r : Int) - 1) := by
      have h5 : ((r : Int) - 1) * ((r : Int) - 1) < x := g6.resolve_left hr1
      have h6 : 0 ≤ ((r : Int) - 1) * ((r : Int) - 1) := Int.mul_nonneg (by omega) (by omega)
      exact w64 (by omega) (by omega)
    simp only [decide_eq_false hr, e8, decide_eq_true (g6.resolve_left hr1), BEq.rfl, cond_true]
theorem law_run (a0 : Int) (w0 : WF (.int .u16) a0) (a1 : Int) (w1 : WF (.int .u16) a1) : runHow E (evalF E 2100) 2100 s7 (a0, a1) h7 = some true :=
  (law_R 2100 a0 a1).trans (law a0 a1 w0 w1)
end Go.Proofs.Ytbbbcdfagmcfgaa.EWalkLittle
