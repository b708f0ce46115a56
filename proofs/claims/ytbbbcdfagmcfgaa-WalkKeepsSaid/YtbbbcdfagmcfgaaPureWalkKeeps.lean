import Derived.Test.YtbbbcdfagmcfgaaResKit
import Derived.Test.YtbbbcdfagmcfgaaResWalkKeeps
namespace Go.Proofs.Ytbbbcdfagmcfgaa.EWalkKeeps
open Go Go.Proofs.Ytbbbcdfagmcfgaa.AE
set_option linter.unusedVariables false
set_option linter.unusedSimpArgs false
/-! Which rows are kept: 0, and the multiples below. -/
def mult (e m : Nat) : List Int := 0 :: ((List.range m).filter fun i => decide (0 < i) && decide (i % e = 0)).map Int.ofNat
theorem mult_succ (e m : Nat) : mult e (m + 1) = mult e m ++ (if 0 < m ∧ m % e = 0 then [(m : Int)] else []) := by
  unfold mult
  rw [List.range_succ, List.filter_append, List.map_append, List.cons_append]
  congr 2
  by_cases h : 0 < m ∧ m % e = 0
  · rw [if_pos h]; simp [h.1, h.2]
  · rw [if_neg h]
    have : (decide (0 < m) && decide (m % e = 0)) = false := by
      rw [Bool.and_eq_false_iff]
      by_cases h1 : 0 < m
      · right; simp; exact fun h2 => h ⟨h1, h2⟩
      · left; simpa using h1
    simp [this]
theorem mult_skip (e m : Nat) : ∀ d, (∀ i, m ≤ i → i < m + d → ¬ (0 < i ∧ i % e = 0)) → mult e (m + d) = mult e m
  | 0, _ => rfl
  | d + 1, h => by
    rw [← Nat.add_assoc, mult_succ, if_neg (h (m + d) (by omega) (by omega)), List.append_nil]
    exact mult_skip e m d fun i h1 h2 => h i h1 (by omega)
theorem mult_to (e m m' : Nat) (hm : m ≤ m') (h : ∀ i, m ≤ i → i < m' → ¬ (0 < i ∧ i % e = 0)) : mult e m' = mult e m := by
  obtain ⟨d, rfl⟩ : ∃ d, m' = m + d := ⟨m' - m, by omega⟩
  exact mult_skip e m d h
theorem mult_len (e m : Nat) : (mult e m).length ≤ m + 1 := by
  unfold mult
  have := List.length_filter_le (fun i => decide (0 < i) && decide (i % e = 0)) (List.range m)
  simp at this ⊢
  omega
theorem below (e q j : Nat) (h : j % e = 0) (hj : j < q * e) : j + e ≤ q * e := by
  obtain ⟨t, rfl⟩ := Nat.dvd_of_mod_eq_zero h
  have ht : t < q := by
    rcases Nat.lt_or_ge t q with h1 | h1
    · exact h1
    · have := Nat.mul_le_mul_right e h1
      rw [Nat.mul_comm t e] at this
      omega
  have := Nat.mul_le_mul_right e (show t + 1 ≤ q from ht)
  rw [Nat.add_mul, Nat.one_mul, Nat.mul_comm t e] at this
  exact this
theorem is_ (k : Nat) (a : Int) : R30 (k + 1) a = some (decide (0 ≤ a ∧ a ≤ 1048576)) := by
  show r30 a = _
  unfold r30
  by_cases h : a ≥ 0
  · simp [h, show (0 : Int) ≤ a from h]
  · simp [h]
theorem kept_loop (f : Int → Option Bool) (N E : Nat) (hN : N ≤ 1048576) (hE : 1 ≤ E) : ∀ (m : Nat) (q : Nat), 1 ≤ q → (q * E < N + E ∨ q = 1) → N - q * E < m →
    ∃ z, iter (F10_0 f) m ((N : Int), (E : Int), ((q * E : Nat) : Int), mult E (q * E)) = some (.inl z) ∧ z.2.2.2 = mult E N
  | 0, q, _, _, h => by omega
  | m + 1, q, hq, hlt, h => by
    show ∃ z, F10_0 f (iter (F10_0 f) m) _ = some (.inl z) ∧ _
    unfold F10_0
    simp only
    by_cases c : q * E < N
    · have hc : decide (((q * E : Nat) : Int) < (N : Int)) = true := decide_eq_true (by omega)
      have hl := mult_len E (q * E)
      rw [hc, cond_true, if_pos (by simp only [List.length_cons, List.length_nil]; omega)]
      have e1 : IntKind.wrap .i64 (((q * E : Nat) : Int) + (E : Int)) = (((q + 1) * E : Nat) : Int) := by
        have hEN : E ≤ q * E := by
          have := Nat.mul_le_mul_right E hq
          omega
        rw [w64 (by omega) (by omega), Nat.add_mul, Nat.one_mul]; omega
      have e2 : mult E (q * E) ++ [((q * E : Nat) : Int)] = mult E ((q + 1) * E) := by
        have h0 : 0 < q * E := Nat.mul_pos hq hE
        rw [mult_to E (q * E + 1) ((q + 1) * E) (by rw [Nat.add_mul]; omega) (fun i h1 h2 ⟨h3, h4⟩ => by
          have := below E (q + 1) i h4 h2
          rw [Nat.add_mul] at this; omega), mult_succ, if_pos ⟨h0, Nat.mul_mod_left q E⟩]
      rw [e1, e2]
      have hqE : (q + 1) * E = q * E + E := by rw [Nat.add_mul, Nat.one_mul]
      exact kept_loop f N E hN hE m (q + 1) (by omega) (by left; omega) (by omega)
    · have hc : decide (((q * E : Nat) : Int) < (N : Int)) = false := decide_eq_false (by omega)
      rw [hc, cond_false]
      refine ⟨_, rfl, mult_to E N (q * E) (by omega) fun i h1 h2 ⟨h3, h4⟩ => ?_⟩
      have := below E q i h4 h2
      rcases hlt with h5 | h5
      · omega
      · subst h5; omega
theorem kept_walk (k : Nat) (n e : Int) (hk : n.toNat + 1 ≤ k ∨ 1048576 < n) (he : e ≤ 9223372036854775807) : R10 (k + 2) n e = some (if 0 ≤ n ∧ n ≤ 1048576 ∧ 1 ≤ e then mult e.toNat n.toNat else []) := by
  show r10 (R30 (k + 1)) (iter (F10_0 (R30 (k + 1))) (k + 1)) n e = _
  unfold r10
  rw [is_]
  by_cases h : 0 ≤ n ∧ n ≤ 1048576
  · by_cases h2 : e < 1
    · have : ¬ (0 ≤ n ∧ n ≤ 1048576 ∧ 1 ≤ e) := by omega
      rw [if_neg this]
      simp [h, h2]
    · obtain ⟨N, rfl⟩ := Int.eq_ofNat_of_zero_le h.1
      obtain ⟨E, rfl⟩ := Int.eq_ofNat_of_zero_le (show 0 ≤ e by omega)
      obtain ⟨z, hz, hl⟩ := kept_loop (R30 (k + 1)) N E (by omega) (by omega) (k + 1) 1 (by omega) (.inr rfl) (by omega)
      have e0 : mult E (1 * E) = [0] := by
        rw [Nat.one_mul, mult_to E 0 E (by omega) fun i h1 h3 ⟨h4, h5⟩ => by
          rw [Nat.mod_eq_of_lt h3] at h5; omega]
        rfl
      rw [e0, Nat.one_mul] at hz
      have h3 : (0 ≤ (N : Int) ∧ (N : Int) ≤ 1048576 ∧ 1 ≤ (E : Int)) := by omega
      rw [if_pos h3]
      simp only [Option.bind_some, decide_eq_true h, Bool.not_true, BEq.rfl, cond_true, decide_eq_false h2, cond_false]
      rw [hz]
      simp [onSum, hl]
  · have : ¬ (0 ≤ n ∧ n ≤ 1048576 ∧ 1 ≤ e) := by omega
    rw [if_neg this]
    simp [decide_eq_false h]
theorem ref_loop (N E : Nat) (hN : N ≤ 1048576) (hE : 1 ≤ E) : ∀ (m i : Nat), 1 ≤ i → (i ≤ N ∨ i = 1) → N - i < m →
    ∃ z, iter F20_0 m ((N : Int), (E : Int), (i : Int), mult E i) = some (.inl z) ∧ z.2.2.2 = mult E N
  | 0, i, _, _, h => by omega
  | m + 1, i, hi, hiN, h => by
    show ∃ z, F20_0 (iter F20_0 m) _ = some (.inl z) ∧ _
    unfold F20_0
    simp only
    by_cases c : i < N
    · have hc : decide ((i : Int) < (N : Int)) = true := decide_eq_true (by omega)
      have hl := mult_len E i
      have hm : (i : Int).tmod (E : Int) = ((i % E : Nat) : Int) := by rw [Int.tmod_eq_emod_of_nonneg (by omega)]; rfl
      have e1 : IntKind.wrap .i64 ((i : Int) + 1) = ((i + 1 : Nat) : Int) := by rw [w64 (by omega) (by omega)]; rfl
      rw [hc, cond_true, if_neg (by omega), hm, e1]
      have key := ref_loop N E hN hE m (i + 1) (by omega) (by omega) (by omega)
      by_cases h2 : i % E = 0
      · rw [mult_succ, if_pos ⟨hi, h2⟩] at key
        rw [h2]
        rw [show decide (((0 : Nat) : Int) = 0) = true from rfl, cond_true, if_pos (by simp only [List.length_cons, List.length_nil]; omega)]
        exact key
      · rw [mult_succ, if_neg (fun h3 => h2 h3.2), List.append_nil] at key
        rw [decide_eq_false (by omega), cond_false]
        exact key
    · have hc : decide ((i : Int) < (N : Int)) = false := decide_eq_false (by omega)
      rw [hc, cond_false]
      refine ⟨_, rfl, mult_to E N i (by omega) fun j h1 h2 ⟨h3, h4⟩ => by omega⟩
theorem kept_ref (k : Nat) (n e : Int) (hk : n.toNat + 1 ≤ k ∨ 1048576 < n) : R20 (k + 1) n e = some (if 0 ≤ n ∧ n ≤ 1048576 ∧ 1 ≤ e then mult e.toNat n.toNat else []) := by
  show r20 (iter F20_0 k) n e = _
  unfold r20
  by_cases h : 0 ≤ n ∧ n ≤ 1048576
  · have h1 : ¬ n < 0 := by omega
    have h1' : ¬ n > 1048576 := by omega
    by_cases h2 : e < 1
    · have : ¬ (0 ≤ n ∧ n ≤ 1048576 ∧ 1 ≤ e) := by omega
      rw [if_neg this]
      simp [h1, h1', h2]
    · obtain ⟨N, rfl⟩ := Int.eq_ofNat_of_zero_le h.1
      obtain ⟨E, rfl⟩ := Int.eq_ofNat_of_zero_le (show 0 ≤ e by omega)
      obtain ⟨z, hz, hl⟩ := ref_loop N E (by omega) (by omega) k 1 (by omega) (.inr rfl) (by omega)
      have e0 : mult E 1 = [0] := by rw [mult_succ]; rfl
      rw [e0] at hz
      have hz' : iter F20_0 k ((N : Int), (E : Int), 1, [0]) = some (.inl z) := hz
      have h3 : (0 ≤ (N : Int) ∧ (N : Int) ≤ 1048576 ∧ 1 ≤ (E : Int)) := by omega
      rw [if_pos h3]
      simp [h1, h1', h2, hz', onSum, hl]
  · have : ¬ (0 ≤ n ∧ n ≤ 1048576 ∧ 1 ≤ e) := by omega
    rw [if_neg this]
    by_cases h1 : n < 0
    · simp [h1]
    · have h1' : n > 1048576 := by omega
      simp [h1, h1']
theorem same_loop (l : List Int) (hl : l.length ≤ 1048577) : ∀ (m i : Nat), i ≤ l.length → l.length - i < m → ∃ z, iter F11_0 m (l, l, (i : Int)) = some (.inl z)
  | 0, i, _, h => by omega
  | m + 1, i, hi, h => by
    show ∃ z, F11_0 (iter F11_0 m) _ = some (.inl z)
    unfold F11_0
    simp only
    by_cases c : i < l.length
    · have e1 : IntKind.wrap .i64 ((i : Int) + 1) = ((i + 1 : Nat) : Int) := by rw [w64 (by omega) (by omega)]; rfl
      rw [decide_eq_true (show (i : Int) < (l.length : Int) by omega), cond_true, if_pos (by omega), if_pos (by omega)]
      simp only [decide_true, Bool.not_true, cond_false, e1]
      exact same_loop l hl m (i + 1) (by omega) (by omega)
    · rw [decide_eq_false (show ¬ (i : Int) < (l.length : Int) by omega), cond_false]
      exact ⟨_, rfl⟩
theorem same_self (k : Nat) (l : List Int) (hl : l.length ≤ 1048577) (hk : l.length < k) : R11 (k + 1) l l = some true := by
  show r11 (iter F11_0 k) l l = _
  unfold r11
  obtain ⟨z, hz⟩ := same_loop l hl k 0 (by omega) (by omega)
  have hz' : iter F11_0 k (l, l, 0) = some (.inl z) := hz
  simp [hz', onSum]
theorem words_walk (k : Nat) (m : Int) (h0 : 0 ≤ m) (h1 : m ≤ 1048576) : R31 (k + 2) m = some ((m + 63) / 64) := by
  show r31 (R44 (k + 1)) m = _
  have e : R44 (k + 1) m = some m := by
    show r44 m = _
    unfold r44
    have h2 : ¬ (0 : Int) > m := by omega
    have h3 : ¬ (1048576 : Int) < m := by omega
    simp [h2, h3]
  unfold r31
  rw [e]
  simp only [Option.bind_some]
  have e1 : IntKind.wrap .i64 (m + 64) = m + 64 := w64 (by omega) (by omega)
  have e2 : IntKind.wrap .i64 (m + 64 - 1) = m + 63 := by rw [w64 (by omega) (by omega)]; omega
  have e3 : IntKind.wrap .i64 ((m + 63) / 64) = (m + 63) / 64 := w64 (by omega) (by omega)
  rw [e1, e2, Int.tdiv_eq_ediv_of_nonneg (by omega), e3, if_neg (by decide)]
theorem words_ref (k : Nat) (m : Int) (h0 : 0 ≤ m) (h1 : m ≤ 1048576) : R33 (k + 2) m = some ((m + 63) / 64) := by
  show r33 (R46 (k + 1)) m = _
  have e : R46 (k + 1) m = some m := by
    show r46 m = _
    unfold r46
    have h2 : ¬ m < 0 := by omega
    have h3 : ¬ m > 1048576 := by omega
    simp [h2, h3]
  unfold r33
  rw [e]
  simp only [Option.bind_some]
  have e2 : IntKind.wrap .i64 (m + 63) = m + 63 := w64 (by omega) (by omega)
  have e3 : IntKind.wrap .i64 ((m + 63) / 64) = (m + 63) / 64 := w64 (by omega) (by omega)
  rw [e2, Int.tdiv_eq_ediv_of_nonneg (by omega), e3, if_neg (by decide)]
theorem room (k : Nat) (n m e : Int) (hk : n.toNat + 1 ≤ k ∨ 1048576 < n) (he : e ≤ 9223372036854775807) : R12 (k + 3) n m e = R21 (k + 3) n m e ∧ ∃ v, R12 (k + 3) n m e = some v := by
  show r12 (R10 (k + 2)) (R30 (k + 2)) (R31 (k + 2)) n m e = r21 (R20 (k + 2)) (R33 (k + 2)) n m e ∧ ∃ v, r12 (R10 (k + 2)) (R30 (k + 2)) (R31 (k + 2)) n m e = some v
  unfold r12 r21
  rw [is_, kept_walk k n e hk he, kept_ref (k + 1) n e (by omega)]
  generalize (if 0 ≤ n ∧ n ≤ 1048576 ∧ 1 ≤ e then mult e.toNat n.toNat else []) = L
  simp only [Option.bind_some]
  by_cases h : 0 ≤ m ∧ m ≤ 1048576
  · rw [words_walk k m h.1 h.2, words_ref k m h.1 h.2]
    have h1 : ¬ m < 0 := by omega
    have h2 : ¬ m > 1048576 := by omega
    by_cases hL : (L.length : Int) = 0
    · simp [h, h1, h2, hL]
    · have hL2 : L ≠ [] := fun e0 => hL (by rw [e0]; rfl)
      simp [h, h1, h2, hL, hL2]
  · by_cases hL : (L.length : Int) = 0
    · simp [h, hL]
    · by_cases h1 : m < 0
      · simp [h, hL, h1]
      · have h2 : m > 1048576 := by omega
        simp [h, hL, h1, h2]
theorem root_loop (x : Int) (hx : x ≤ 1048576) : ∀ (m : Nat) (r : Nat), 1 ≤ r → r ≤ 1024 → 1024 - r < m → (r = 1 ∨ ((r : Int) - 1) * ((r : Int) - 1) < x) →
    ∃ r' : Nat, iter F13_0 m (x, (r : Int)) = some (.inl (x, (r' : Int))) ∧ 1 ≤ r' ∧ r' ≤ 1024 ∧ x ≤ (r' : Int) * (r' : Int) ∧ (r' = 1 ∨ ((r' : Int) - 1) * ((r' : Int) - 1) < x)
  | 0, r, _, _, h, _ => by omega
  | m + 1, r, h1, h2, h3, h4 => by
    show ∃ r' : Nat, F13_0 (iter F13_0 m) _ = _ ∧ _
    unfold F13_0
    simp only
    have hb : (r : Int) * (r : Int) ≤ 1048576 := by
      have := Nat.mul_le_mul h2 h2
      have h5 : ((r * r : Nat) : Int) ≤ ((1024 * 1024 : Nat) : Int) := by omega
      rw [Int.natCast_mul] at h5
      exact h5
    have h0 : (0 : Int) ≤ (r : Int) * (r : Int) := Int.mul_nonneg (by omega) (by omega)
    rw [w64 (by omega) (by omega)]
    by_cases c : (r : Int) * (r : Int) < x
    · rw [decide_eq_true c, cond_true, w64 (by omega) (by omega)]
      have hr : r < 1024 := by
        rcases Nat.lt_or_ge r 1024 with h | h
        · exact h
        · have : r = 1024 := by omega
          subst this
          have : ((1024 : Nat) : Int) * ((1024 : Nat) : Int) = 1048576 := by decide
          omega
      have := root_loop x hx m (r + 1) (by omega) (by omega) (by omega) (by
        right
        have : ((r + 1 : Nat) : Int) - 1 = (r : Int) := by omega
        rw [this]; exact c)
      exact this
    · rw [decide_eq_false c, cond_false]
      exact ⟨r, rfl, h1, h2, by omega, h4⟩
theorem root_walk (k : Nat) (n : Int) (hk : 1024 ≤ k) : ∃ r : Nat, R13 (k + 1) n = some (r : Int) ∧ 1 ≤ r ∧ r ≤ 1024 ∧ (n ≤ 1048576 → n ≤ (r : Int) * (r : Int) ∧ (r = 1 ∨ ((r : Int) - 1) * ((r : Int) - 1) < n)) := by
  show ∃ r : Nat, r13 (iter F13_0 k) n = _ ∧ _
  unfold r13
  obtain ⟨r', h1, h2, h3, h4, h5⟩ := root_loop (if (1048576 : Int) < n then 1048576 else n) (by split <;> omega) k 1 (by omega) (by omega) (by omega) (.inl rfl)
  have h1' : iter F13_0 k (if (1048576 : Int) < n then 1048576 else n, 1) = _ := h1
  refine ⟨r', by simp [h1', onSum], h2, h3, fun hn => ?_⟩
  rw [if_neg (by omega)] at h4 h5
  exact ⟨h4, h5⟩
theorem root_ref (k : Nat) (n : Int) : R22 k n = R13 k n := by cases k <;> rfl
theorem awake : R9 2100 () = some true := by kernel_rfl
theorem law (a0 a1 a2 : Int) (w2 : WF (.int .i64) a2) : R6 2101 a0 a1 a2 = some true := by
  show r6 (R9 2100) (R10 2100) (R11 2100) (R12 2100) (R13 2100) (R20 2100) (R21 2100) (R22 2100) a0 a1 a2 = _
  unfold r6
  rw [awake]
  simp only [Option.bind_some, Bool.not_true, cond_false]
  have he := (wf_i64 w2).2
  have main : ∀ (hn : a0 ≤ 500 ∨ 1048576 < a0), (Option.bind (R10 2100 a0 a2) fun y14 => Option.bind (R20 2100 a0 a2) fun y15 => Option.bind (R11 2100 y14 y15) fun y16 => bif y16 == true then
      Option.bind (R12 2100 a0 a1 a2) fun y17 => Option.bind (R21 2100 a0 a1 a2) fun y18 => let v19 : Bool := decide (y17 = y18)
        bif v19 == true then Option.bind (R13 2100 a0) fun y20 => Option.bind (R22 2100 a0) fun y21 => let v22 : Bool := decide (y20 = y21)
          some v22 else some false else some false) = some true := by
    intro hn
    have hk : a0.toNat + 1 ≤ 2097 ∨ 1048576 < a0 := by omega
    rw [kept_walk 2098 a0 a2 (by omega) he, kept_ref 2099 a0 a2 (by omega)]
    simp only [Option.bind_some]
    rw [same_self 2099 _ (by
      split
      · have := mult_len a2.toNat a0.toNat; omega
      · simp) (by
      split
      · have := mult_len a2.toNat a0.toNat; omega
      · simp)]
    obtain ⟨h1, v, h2⟩ := room 2097 a0 a1 a2 hk he
    obtain ⟨r, h3, _⟩ := root_walk 2099 a0 (by omega)
    rw [← h1, h2, root_ref, h3]
    simp
  by_cases h : a0 > 500
  · by_cases h2 : a0 ≤ 1048576
    · simp [h, h2]
    · simp only [h, h2, decide_true, decide_false, BEq.rfl, cond_true, cond_false]
      exact main (.inr (by omega))
  · have : (decide (a0 > 500) == true) = false := by simp [h]
    simp only [this, cond_false]
    exact main (.inl (by omega))
theorem law_run (a0 : Int) (w0 : WF (.int .i64) a0) (a1 : Int) (w1 : WF (.int .i64) a1) (a2 : Int) (w2 : WF (.int .i64) a2) : runHow E (evalF E 2100) 2100 s6 (a0, a1, a2) h6 = some true :=
  (law_R 2100 a0 a1 a2).trans (law a0 a1 a2 w2)
end Go.Proofs.Ytbbbcdfagmcfgaa.EWalkKeeps
