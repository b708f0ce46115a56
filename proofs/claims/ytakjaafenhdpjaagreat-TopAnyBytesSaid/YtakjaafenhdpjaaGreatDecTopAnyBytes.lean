import Derived.Test.YtakjaafenhdpjaaGreatFmtTopAnyBytes
namespace Go.Proofs.YtakjaafenhdpjaaGreat.ETopAnyBytes
open Go Go.Proofs.YtakjaafenhdpjaaGreat.AE Go.Proofs.YtakjaafenhdpjaaGreat
set_option linter.unusedVariables false
set_option linter.unusedSimpArgs false
/-! Decode: what it computes. -/
theorem rname_is (k : Nat) (mode : Int) : R62 (k + 1) mode = some (if mode = 0 then ⟨#[98, 121, 116, 101, 115]⟩ else if mode = 1 then ⟨#[108, 105, 110, 101, 115]⟩ else ⟨#[]⟩) := by
  rw [u62]
  unfold r62
  by_cases m0 : mode = 0
  · simp only [decide_eq_true m0, cond_true, if_pos m0]
  · by_cases m1 : mode = 1
    · simp only [decide_eq_false m0, cond_false, decide_eq_true m1, cond_true, if_neg m0, if_pos m1]
    · simp only [decide_eq_false m0, cond_false, decide_eq_false m1, if_neg m0, if_neg m1]
theorem first_is (k : Nat) (b : List Int) (hb : ∀ x ∈ b, 0 ≤ x ∧ x ≤ 255) (hlen : b.length ≤ 1099511627776) :
    R25 (k + 4) (b, ((0 : Int), (0 : Int))) = some (match firstS b with
      | some mode => (true, b, ((16 : Int), mode))
      | none => (false, b, ((0 : Int), (0 : Int)))) := by
  have N0 : R62 (k + 3) 0 = some ⟨#[98, 121, 116, 101, 115]⟩ := by rw [rname_is (k + 2) 0, if_pos rfl]
  have N1 : R62 (k + 3) 1 = some ⟨#[108, 105, 110, 101, 115]⟩ := by rw [rname_is (k + 2) 1, if_neg (by decide), if_pos rfl]
  have T := fun (s : ByteArray) (hs : s.size = 16) => text_is k s (by rw [hs]; decide) b 0 0 hb hlen (Nat.zero_le _)
  have T0 := T ((⟨#[116, 97, 116, 116, 105, 110, 103, 32, 49, 32]⟩ : ByteArray) ++ ⟨#[98, 121, 116, 101, 115]⟩ ++ ⟨#[10]⟩) rfl
  have T1 := T ((⟨#[116, 97, 116, 116, 105, 110, 103, 32, 49, 32]⟩ : ByteArray) ++ ⟨#[108, 105, 110, 101, 115]⟩ ++ ⟨#[10]⟩) rfl
  have b0 : strBytes ((⟨#[116, 97, 116, 116, 105, 110, 103, 32, 49, 32]⟩ : ByteArray) ++ ⟨#[98, 121, 116, 101, 115]⟩ ++ ⟨#[10]⟩) = hd 0 := rfl
  have b1 : strBytes ((⟨#[116, 97, 116, 116, 105, 110, 103, 32, 49, 32]⟩ : ByteArray) ++ ⟨#[108, 105, 110, 101, 115]⟩ ++ ⟨#[10]⟩) = hd 1 := rfl
  have z0 : ((⟨#[116, 97, 116, 116, 105, 110, 103, 32, 49, 32]⟩ : ByteArray) ++ ⟨#[98, 121, 116, 101, 115]⟩ ++ ⟨#[10]⟩).size = 16 := rfl
  have z1 : ((⟨#[116, 97, 116, 116, 105, 110, 103, 32, 49, 32]⟩ : ByteArray) ++ ⟨#[108, 105, 110, 101, 115]⟩ ++ ⟨#[10]⟩).size = 16 := rfl
  rw [List.drop_zero, b0, z0] at T0
  rw [List.drop_zero, b1, z1] at T1
  have cs : (((0 : Nat) : Int)) = 0 := rfl
  rw [cs] at T0 T1
  rw [u25]
  unfold r25
  have J0 : J25_0 (k + 3) (k + 3) ([0, 1], 2, 0, b, ((0 : Int), (0 : Int))) = some (match firstS b with
      | some mode => .inr (true, b, ((16 : Int), mode))
      | none => .inl ([0, 1], 2, 2, b, ((0 : Int), (0 : Int)))) := by
    have step : ∀ (m : Nat) (i : Int) (mode : Int) (nm : ByteArray), (i = 0 ∧ mode = 0 ∨ i = 1 ∧ mode = 1) → R62 (k + 3) mode = some nm → nm.size = 5 →
        R28 (k + 3) ((⟨#[116, 97, 116, 116, 105, 110, 103, 32, 49, 32]⟩ : ByteArray) ++ nm ++ ⟨#[10]⟩) (b, ((0 : Int), (0 : Int))) = some (if b.take 16 = hd mode then (true, b, ((16 : Int), 0)) else (false, b, ((0 : Int), 0))) →
        J25_0 (k + 3) (m + 1) ([0, 1], 2, i, b, ((0 : Int), (0 : Int))) = if b.take 16 = hd mode then some (.inr (true, b, ((16 : Int), mode))) else J25_0 (k + 3) m ([0, 1], 2, i + 1, b, ((0 : Int), (0 : Int))) := by
      intro m i mode nm hi hn hz ht
      rw [j25_0]
      unfold F25_0
      have g : ([0, 1] : List Int).getD i.toNat 0 = mode := by rcases hi with ⟨rfl, rfl⟩ | ⟨rfl, rfl⟩ <;> rfl
      have w : IntKind.wrap .i64 (i + 1) = i + 1 := w64 (by omega) (by omega)
      have l2 : (0 ≤ i ∧ i < (([0, 1] : List Int).length : Int)) := by rcases hi with ⟨rfl, rfl⟩ | ⟨rfl, rfl⟩ <;> decide
      simp only [decide_eq_true (show i < 2 by omega), cond_true, if_pos l2, g, hn, Option.bind_some, w]
      rw [if_pos (by rw [hz]; decide), if_pos (by rw [ByteArray.size_append, hz]; decide), ht]
      by_cases q : b.take 16 = hd mode
      · rw [if_pos q, if_pos q]; rfl
      · rw [if_neg q, if_neg q]; rfl
    have s0 := step (k + 2) 0 0 _ (.inl ⟨rfl, rfl⟩) N0 rfl T0
    have s1 := step (k + 1) 1 1 _ (.inr ⟨rfl, rfl⟩) N1 rfl T1
    unfold firstS
    rw [s0]
    by_cases q0 : b.take 16 = hd 0
    · rw [if_pos q0, if_pos q0]
    · rw [if_neg q0, if_neg q0]
      show J25_0 (k + 3) (k + 1 + 1) ([0, 1], 2, 1, b, ((0 : Int), (0 : Int))) = _
      rw [s1]
      by_cases q1 : b.take 16 = hd 1
      · rw [if_pos q1, if_pos q1]
      · rw [if_neg q1, if_neg q1]
        show J25_0 (k + 3) (k + 1) ([0, 1], 2, 2, b, ((0 : Int), (0 : Int))) = _
        rw [j25_0]
        rfl
  simp only [show ((([0, 1] : List Int).length : Nat) : Int) = 2 from rfl, J0, Option.bind_some]
  cases firstS b <;> rfl
theorem lineS_le {b : List Int} {f : Nat} (h0 : At b f 64) {x y z : Int} {e : Nat} (h : lineS b f = some (x, y, z, e)) : f < e ∧ e ≤ b.length ∧ 0 ≤ x ∧ x ≤ 1048576 ∧ 0 ≤ y ∧ y ≤ 1048576 ∧ 0 ≤ z ∧ z ≤ 1048576 := by
  obtain ⟨a, c, d, rfl, rfl, rfl, ha, hc, hd, ⟨r, hr⟩, rfl⟩ := (lineS_iff b f h0 x y z e).1 h
  have hp : 0 < (lineB a c d).length := by unfold lineB; simp
  have := drop_len hr hp
  omega
/-- What a hunk's reading leaves. -/
theorem dec_loop (k : Nat) (b : List Int) (mode : Int) (hb : ∀ x ∈ b, 0 ≤ x ∧ x ≤ 255) (hlen : b.length ≤ 1099511627776) (hk : b.length < k) : ∀ (m f : Nat) (en : Int) (acc : List Hk), f ≤ b.length → -1 ≤ en → en ≤ 2199023255552 → acc.length ≤ f →
    b.length - f < m →
    ∃ en', iter (F11_0 (R25 (k + 5)) (R26 (k + 5)) (R27 (k + 5)) (R28 (k + 5))) m (b, en, acc, (b, ((f : Int), mode))) = some (match hunksS mode b m f en acc with
      | .inr p => .inr (0, [], (p : Int), 4)
      | .inl (s, e) => .inl (b, en', s, (b, ((e : Int), mode)))) := by
  intro m
  induction m with
  | zero => intro f en acc _ _ _ _ h; omega
  | succ m ihm =>
    intro f en acc hf he1 he2 hacc hm
    show ∃ en', F11_0 _ _ _ _ (iter (F11_0 _ _ _ _) m) _ = _
    unfold F11_0 hunksS
    simp only
    by_cases h : f < b.length
    · have h2 : (0 ≤ (f : Int) ∧ (f : Int) < (b.length : Int)) := ⟨by omega, by omega⟩
      rw [decide_eq_true (show (f : Int) < (b.length : Int) by omega), beq_self_eq_true, cond_true, if_pos h2]
      by_cases c : At b f 64
      · have cg : b.getD (f : Int).toNat 0 = 64 := c.2
        rw [if_pos c, cg]
        simp only [decide_true, cond_true]
        obtain ⟨x, y, z, ok, p, e1, q1, q2, q3⟩ := rline_is (k + 1) b f mode hb hlen (by omega) c
        rw [e1, Option.bind_some]
        unfold stepS
        cases hl : lineS b f with
        | none =>
          rw [hl] at q3
          obtain rfl : ok = false := q3
          exact ⟨0, rfl⟩
        | some r =>
          obtain ⟨X, Y, Z, e⟩ := r
          have hle := lineS_le c hl
          rw [hl] at q3
          obtain ⟨rfl, rfl, rfl, rfl, rfl⟩ := q3
          simp only [Bool.not_true, beq_self_eq_true, cond_true]
          by_cases c1 : x ≤ en
          · rw [decide_eq_true c1, if_pos (.inl c1)]
            exact ⟨0, rfl⟩
          · have w : IntKind.wrap .i64 (y + z) = y + z := w64 (by omega) (by omega)
            rw [decide_eq_false c1, w]
            by_cases c2 : y + z = 0
            · rw [decide_eq_true c2, if_pos (.inr c2)]
              exact ⟨0, rfl⟩
            · rw [decide_eq_false c2, if_neg (by omega)]
              obtain ⟨yn, rfl⟩ : ∃ n : Nat, y = (n : Int) := ⟨y.toNat, by omega⟩
              obtain ⟨zn, rfl⟩ : ∃ n : Nat, z = (n : Int) := ⟨z.toNat, by omega⟩
              have t1 := rtokens_is k b p mode hb hlen hk (by omega) yn (by omega)
              simp only [Int.toNat_natCast, beq_self_eq_true, cond_true, cond_false]
              cases hy : toksS mode b yn p [] with
              | inr q =>
                rw [hy] at t1
                obtain ⟨q', e2⟩ := t1
                rw [e2, Option.bind_some]
                exact ⟨0, rfl⟩
              | inl r =>
                obtain ⟨o, p2⟩ := r
                rw [hy] at t1
                obtain ⟨e2, g1, g2⟩ := t1
                rw [e2, Option.bind_some]
                simp only [Bool.not_true, cond_false]
                have t2 := rtokens_is k b p2 mode hb hlen hk (by omega) zn (by omega)
                cases hz : toksS mode b zn p2 [] with
                | inr q =>
                  rw [hz] at t2
                  obtain ⟨q', e3⟩ := t2
                  rw [e3, Option.bind_some]
                  exact ⟨0, rfl⟩
                | inl r =>
                  obtain ⟨n, p3⟩ := r
                  rw [hz] at t2
                  obtain ⟨e3, g3, g4⟩ := t2
                  rw [e3, Option.bind_some]
                  simp only [Bool.not_true, cond_false]
                  obtain ⟨ts, q5, q6, _, _, _⟩ := (toksS_iff mode b yn p [] o p2).1 hy
                  rw [List.nil_append] at q5
                  subst q5
                  rw [if_pos (by simp only [List.length_cons, List.length_nil]; omega), w64 (x := x + (yn : Int)) (by omega) (by omega)]
                  subst q6
                  exact ihm p3 (x + (o.length : Int)) (acc ++ [(x, o, n)]) g4 (by omega) (by omega) (by rw [List.length_append]; simp; omega) (by omega)
      · have cg : ¬ b.getD (f : Int).toNat 0 = 64 := fun e => c ⟨h, e⟩
        rw [if_neg c, decide_eq_false cg]
        exact ⟨en, rfl⟩
    · have c : ¬ At b f 64 := fun e => h e.1
      rw [if_neg c, decide_eq_false (show ¬ (f : Int) < (b.length : Int) by omega)]
      exact ⟨en, rfl⟩
theorem hunks_le (mode : Int) (b : List Int) {m f : Nat} {en : Int} {acc s : List Hk} {e : Nat} (hm : b.length - f < m) (hf : f ≤ b.length) (h : hunksS mode b m f en acc = .inl (s, e)) : f ≤ e ∧ e ≤ b.length := by
  obtain ⟨ts, _, _, ⟨r, hr⟩, rfl, _⟩ := (hunksS_iff mode b m f en acc s e hm).1 h
  have := congrArg List.length hr
  rw [List.length_drop, List.length_append] at this
  omega
theorem hunksS_fuel (mode : Int) (b : List Int) : ∀ (m1 m2 f : Nat) (en : Int) (acc : List Hk), b.length - f < m1 → b.length - f < m2 → hunksS mode b m1 f en acc = hunksS mode b m2 f en acc := by
  intro m1
  induction m1 with
  | zero => intro m2 f en acc h; omega
  | succ m1 ih =>
    intro m2 f en acc h1 h2
    cases m2 with
    | zero => omega
    | succ m2 =>
      unfold hunksS
      by_cases h0 : At b f 64
      · rw [if_pos h0, if_pos h0]
        cases hs : stepS mode b f en with
        | inr p => rfl
        | inl r =>
          obtain ⟨h, e⟩ := r
          obtain ⟨_, ⟨r, hr⟩, rfl⟩ := (stepS_iff mode b f en h0 h e).1 hs
          have hp := hunkB_pos h
          have := drop_len hr hp
          exact ih m2 _ _ _ (by omega) (by omega)
      · rw [if_neg h0, if_neg h0]
/-- DECODE. -/
theorem Decode_is (k : Nat) (b : List Int) (hb : ∀ x ∈ b, 0 ≤ x ∧ x ≤ 255) (hlen : b.length ≤ 1099511627776) (hk : b.length < k) :
    R11 (k + 6) b = some (match decS b with
      | .inl (mode, s) => (mode, s, 0, 0)
      | .inr p => (0, [], (p : Int), 4)) := by
  rw [u11]
  unfold r11
  simp only
  rw [first_is (k + 1) b hb hlen, Option.bind_some]
  unfold decS
  cases hf : firstS b with
  | none => rfl
  | some mode =>
    obtain ⟨hm, r0, hr0⟩ := (first_iff b mode).1 hf
    have h16 : 16 ≤ b.length := by
      have := congrArg List.length hr0
      rw [List.length_append, hd_len] at this
      omega
    simp only [Bool.not_true, cond_false]
    obtain ⟨en', e0⟩ := dec_loop k b mode hb hlen hk (k + 5) 16 (-1) [] h16 (by omega) (by omega) (Nat.zero_le _) (by omega)
    have e : J11_0 (k + 5) (k + 5) (b, -1, [], (b, ((16 : Int), mode))) = _ := e0
    rw [e, Option.bind_some]
    rw [hunksS_fuel mode b (k + 5) (b.length + 1) 16 (-1) [] (by omega) (by omega)]
    cases hh : hunksS mode b (b.length + 1) 16 (-1) [] with
    | inr p => rfl
    | inl r =>
      obtain ⟨s, f⟩ := r
      have hle := hunks_le mode b (by omega) h16 hh
      unfold restS finS
      simp only [onSum]
      have tx := text_is (k + 2) ⟨#[46, 10]⟩ (by decide) b f mode hb hlen hle.2
      have z2 : (⟨#[46, 10]⟩ : ByteArray).size = 2 := rfl
      have b2 : strBytes ⟨#[46, 10]⟩ = [46, 10] := rfl
      rw [z2, b2] at tx
      rw [tx, Option.bind_some]
      by_cases q : (b.drop f).take 2 = [46, 10]
      · rw [if_pos q, if_pos q]
        simp only [Bool.not_true, cond_false]
        by_cases q2 : f + 2 < b.length
        · rw [decide_eq_true (show ((f + 2 : Nat) : Int) < (b.length : Int) by omega), if_pos q2]
          rfl
        · rw [decide_eq_false (show ¬ ((f + 2 : Nat) : Int) < (b.length : Int) by omega), if_neg q2]
          rfl
      · rw [if_neg q, if_neg q]
        rfl
end Go.Proofs.YtakjaafenhdpjaaGreat.ETopAnyBytes
