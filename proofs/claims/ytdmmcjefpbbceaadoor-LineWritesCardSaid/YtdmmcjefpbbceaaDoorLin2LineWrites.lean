import Derived.Test.YtdmmcjefpbbceaaDoorLinLineWrites
namespace Go.Proofs.YtdmmcjefpbbceaaDoor.ELineWrites
open Go Go.Proofs.YtdmmcjefpbbceaaDoor.AE Go.Proofs.YtdmmcjefpbbceaaDoor
set_option linter.unusedVariables false
set_option linter.unusedSimpArgs false
/-! Bytes. -/
abbrev DIG : ByteArray := ⟨#[48, 49, 50, 51, 52, 53, 54, 55, 56, 57, 97, 98, 99, 100, 101, 102]⟩
def hexS (c : Int) : Int := Lib.indexByte DIG.data.toList c.toNat.toUInt8
def hexL : List Int → List Int → Option (List Int)
  | x :: y :: l, acc => if hexS x < 0 ∨ hexS y < 0 then none else hexL l (acc ++ [16 * hexS x + hexS y])
  | _, acc => some acc
theorem hexS_le (c : Int) : -1 ≤ hexS c ∧ hexS c ≤ 15 := by
  refine ⟨Lib.indexByte_ge _ _, ?_⟩
  have key : ∀ (l : List UInt8) (b : UInt8), Lib.indexByte l b ≤ (l.length : Int) - 1 := by
    intro l b
    induction l with
    | nil => simp [Lib.indexByte]
    | cons a l ih =>
      unfold Lib.indexByte
      rw [List.length_cons]
      split
      · omega
      · split
        · omega
        · omega
  exact key _ _
theorem idx_is (k : Nat) (c : Int) : R53 (k + 1) DIG c = some (hexS c) := rfl
theorem dig_at : ∀ i : Nat, i < 16 → byteAt DIG (i : Int) = ((DIG.data.toList.getD i 0).toNat : Int) := by decide
theorem half_loop (k : Nat) (c : Int) (hc : 0 ≤ c ∧ c ≤ 255) : ∀ (m d i : Nat), i + d = 16 → d < m →
    J59_0 k m (c, (i : Int)) = some (match Lib.indexByte (DIG.data.toList.drop i) c.toNat.toUInt8 with | .ofNat j => .inr ((i + j : Nat) : Int) | .negSucc _ => .inl (c, 16))
  | 0, d, i, _, h => by omega
  | m + 1, 0, i, h1, _ => by
    obtain rfl : i = 16 := by omega
    rw [j59_0]
    rfl
  | m + 1, d + 1, i, h1, h2 => by
    have hi : i < 16 := by omega
    have ih := half_loop k c hc m d (i + 1) (by omega) (by omega)
    rw [j59_0]
    unfold F59_0
    have e : IntKind.wrap .i64 ((i : Int) + 1) = ((i + 1 : Nat) : Int) := by rw [w64 (by omega) (by omega)]; omega
    have hsz : ((⟨#[48, 49, 50, 51, 52, 53, 54, 55, 56, 57, 97, 98, 99, 100, 101, 102]⟩ : ByteArray).size : Int) = 16 := rfl
    have hlen : DIG.data.toList.length = 16 := rfl
    have hd : DIG.data.toList.drop i = DIG.data.toList[i]'(by omega) :: DIG.data.toList.drop (i + 1) := List.drop_eq_getElem_cons (by omega)
    have hg : DIG.data.toList.getD i 0 = DIG.data.toList[i]'(by omega) := by simp [List.getD, List.getElem?_eq_getElem (show i < DIG.data.toList.length by omega)]
    have hb := dig_at i hi
    rw [hg] at hb
    simp only [decide_eq_true (show (i : Int) < 16 by omega), cond_true, hsz, if_pos (show 0 ≤ (i : Int) ∧ (i : Int) < 16 by omega), hb, e]
    rw [hd]
    generalize DIG.data.toList[i]'(by omega) = b at *
    have hcb : (decide ((b.toNat : Int) = c)) = (b == c.toNat.toUInt8) := by
      rw [Bool.eq_iff_iff]
      simp only [decide_eq_true_eq, beq_iff_eq]
      constructor
      · intro h
        rw [← h]
        simp
      · intro h
        rw [h]
        have : (c.toNat.toUInt8).toNat = c.toNat := by simp; omega
        rw [this]; omega
    rw [hcb, ih]
    have ei : Lib.indexByte (b :: DIG.data.toList.drop (i + 1)) c.toNat.toUInt8 = if b == c.toNat.toUInt8 then 0 else if Lib.indexByte (DIG.data.toList.drop (i + 1)) c.toNat.toUInt8 == -1 then -1 else Lib.indexByte (DIG.data.toList.drop (i + 1)) c.toNat.toUInt8 + 1 := rfl
    rw [ei]
    cases hbc : (b == c.toNat.toUInt8) with
    | true => rfl
    | false =>
      rw [if_neg (by simp), cond_false]
      have hge := Lib.indexByte_ge (DIG.data.toList.drop (i + 1)) c.toNat.toUInt8
      cases hx : Lib.indexByte (DIG.data.toList.drop (i + 1)) c.toNat.toUInt8 with
      | ofNat j =>
        rw [if_neg (by simp)]
        show some (Sum.inr ((i + 1 + j : Nat) : Int)) = some (Sum.inr ((i + (j + 1) : Nat) : Int))
        rw [show i + 1 + j = i + (j + 1) by omega]
      | negSucc j =>
        have : j = 0 := by rw [hx] at hge; omega
        subst this
        rfl
theorem half_is (k : Nat) (c : Int) (hc : 0 ≤ c ∧ c ≤ 255) : R59 (k + 18) c = some (hexS c) := by
  rw [u59]
  unfold r59
  have e : J59_0 (k + 17) (k + 17) (c, 0) = _ := half_loop (k + 17) c hc (k + 17) 16 0 rfl (by omega)
  rw [e, Option.bind_some]
  have hge := Lib.indexByte_ge DIG.data.toList c.toNat.toUInt8
  unfold hexS
  rw [List.drop_zero]
  cases hx : Lib.indexByte DIG.data.toList c.toNat.toUInt8 with
  | ofNat j =>
    show some (((0 + j : Nat)) : Int) = some (Int.ofNat j)
    rw [Nat.zero_add]
    rfl
  | negSucc j =>
    have : j = 0 := by rw [hx] at hge; omega
    subst this
    rfl
theorem bytes_loop (k : Nat) (s : ByteArray) (hs : s.size ≤ 1048576) : ∀ (m i : Nat) (acc : List Int), (strBytes s).length - i < m → i ≤ (strBytes s).length → ((strBytes s).length - i) % 2 = 0 → acc.length ≤ i →
    J32_0 (k + 1) m (s, (i : Int), acc) = some (match hexL ((strBytes s).drop i) acc with | some b => .inl (s, (s.size : Int), b) | none => .inr ([], false)) := by
  have hn := strBytes_n s
  intro m
  induction m with
  | zero => intro i acc h; omega
  | succ m ih =>
    intro i acc hm hi hp ha
    rw [j32_0]
    unfold F32_0
    simp only
    by_cases h : i < (strBytes s).length
    · have h2 : i + 1 < (strBytes s).length := by omega
      have hd : (strBytes s).drop i = (strBytes s)[i] :: (strBytes s)[i + 1] :: (strBytes s).drop (i + 2) := by
        rw [List.drop_eq_getElem_cons h, List.drop_eq_getElem_cons h2]
      have b1 := byteAt_is s i h
      have b2 := byteAt_is s (i + 1) h2
      have e1 : IntKind.wrap .i64 ((i : Int) + 1) = ((i + 1 : Nat) : Int) := by rw [w64 (by omega) (by omega)]; omega
      have e2 : IntKind.wrap .i64 ((i : Int) + 2) = ((i + 2 : Nat) : Int) := by rw [w64 (by omega) (by omega)]; omega
      rw [hd, decide_eq_true (show (i : Int) < (s.size : Int) by omega), cond_true, if_pos (show 0 ≤ (i : Int) ∧ (i : Int) < (s.size : Int) by omega), b1]
      have q1 := idx_is k (strBytes s)[i]
      have q2 := idx_is k (strBytes s)[i + 1]
      rw [q1, Option.bind_some, e1, if_pos (show 0 ≤ ((i + 1 : Nat) : Int) ∧ ((i + 1 : Nat) : Int) < (s.size : Int) by omega), b2, q2, Option.bind_some]
      have l1 := hexS_le (strBytes s)[i]
      have l2 := hexS_le (strBytes s)[i + 1]
      unfold hexL
      generalize hexS (strBytes s)[i] = x at *
      generalize hexS (strBytes s)[i + 1] = y at *
      by_cases c1 : x < 0
      · rw [decide_eq_true c1, if_pos (show x < 0 ∨ y < 0 from .inl c1)]
        rfl
      · rw [decide_eq_false c1]
        by_cases c2 : y < 0
        · rw [decide_eq_true c2, if_pos (show x < 0 ∨ y < 0 from .inr c2)]
          rfl
        · have w1 : IntKind.wrap .i64 (16 * x) = 16 * x := w64 (by omega) (by omega)
          have w2 : IntKind.wrap .i64 (16 * x + y) = 16 * x + y := w64 (by omega) (by omega)
          have w3 : IntKind.wrap .u8 (16 * x + y) = 16 * x + y := wu8b (by omega) (by omega)
          rw [decide_eq_false c2, w1, w2, w3, e2, if_neg (show ¬ (x < 0 ∨ y < 0) by omega)]
          simp only [beq_self_eq_true, cond_true, cond_false]
          rw [if_pos (by simp only [List.length_cons, List.length_nil]; omega)]
          exact ih (i + 2) (acc ++ [16 * x + y]) (by omega) (by omega) (by omega) (by rw [List.length_append]; simp; omega)
    · obtain rfl : i = (strBytes s).length := by omega
      rw [decide_eq_false (show ¬ ((strBytes s).length : Int) < (s.size : Int) by omega), List.drop_length, hn]
      rfl
theorem rbytes_loop (k : Nat) (s : ByteArray) (hs : s.size ≤ 1048576) : ∀ (m i : Nat) (acc : List Int), (strBytes s).length - i < m → i ≤ (strBytes s).length → ((strBytes s).length - i) % 2 = 0 → acc.length ≤ i →
    J44_0 (k + 18) m (s, (i : Int), acc) = some (match hexL ((strBytes s).drop i) acc with | some b => .inl (s, (s.size : Int), b) | none => .inr ([], false)) := by
  have hn := strBytes_n s
  intro m
  induction m with
  | zero => intro i acc h; omega
  | succ m ih =>
    intro i acc hm hi hp ha
    rw [j44_0]
    unfold F44_0
    simp only
    by_cases h : i < (strBytes s).length
    · have h2 : i + 1 < (strBytes s).length := by omega
      have hd : (strBytes s).drop i = (strBytes s)[i] :: (strBytes s)[i + 1] :: (strBytes s).drop (i + 2) := by
        rw [List.drop_eq_getElem_cons h, List.drop_eq_getElem_cons h2]
      have b1 := byteAt_is s i h
      have b2 := byteAt_is s (i + 1) h2
      have e1 : IntKind.wrap .i64 ((i : Int) + 1) = ((i + 1 : Nat) : Int) := by rw [w64 (by omega) (by omega)]; omega
      have e2 : IntKind.wrap .i64 ((i : Int) + 2) = ((i + 2 : Nat) : Int) := by rw [w64 (by omega) (by omega)]; omega
      rw [hd, decide_eq_true (show (i : Int) < (s.size : Int) by omega), cond_true, if_pos (show 0 ≤ (i : Int) ∧ (i : Int) < (s.size : Int) by omega), b1]
      have q1 := half_is k (strBytes s)[i] (strBytes_ok s _ (List.getElem_mem h))
      have q2 := half_is k (strBytes s)[i + 1] (strBytes_ok s _ (List.getElem_mem h2))
      rw [q1, Option.bind_some, e1, if_pos (show 0 ≤ ((i + 1 : Nat) : Int) ∧ ((i + 1 : Nat) : Int) < (s.size : Int) by omega), b2, q2, Option.bind_some]
      have l1 := hexS_le (strBytes s)[i]
      have l2 := hexS_le (strBytes s)[i + 1]
      unfold hexL
      generalize hexS (strBytes s)[i] = x at *
      generalize hexS (strBytes s)[i + 1] = y at *
      by_cases c1 : x < 0
      · rw [decide_eq_true c1, if_pos (show x < 0 ∨ y < 0 from .inl c1)]
        rfl
      · rw [decide_eq_false c1]
        by_cases c2 : y < 0
        · rw [decide_eq_true c2, if_pos (show x < 0 ∨ y < 0 from .inr c2)]
          rfl
        · have w1 : IntKind.wrap .i64 (16 * x) = 16 * x := w64 (by omega) (by omega)
          have w2 : IntKind.wrap .i64 (16 * x + y) = 16 * x + y := w64 (by omega) (by omega)
          have w3 : IntKind.wrap .u8 (16 * x + y) = 16 * x + y := wu8b (by omega) (by omega)
          rw [decide_eq_false c2, w1, w2, w3, e2, if_neg (show ¬ (x < 0 ∨ y < 0) by omega)]
          simp only [beq_self_eq_true, cond_true, cond_false]
          rw [if_pos (by simp only [List.length_cons, List.length_nil]; omega)]
          exact ih (i + 2) (acc ++ [16 * x + y]) (by omega) (by omega) (by omega) (by rw [List.length_append]; simp; omega)
    · obtain rfl : i = (strBytes s).length := by omega
      rw [decide_eq_false (show ¬ ((strBytes s).length : Int) < (s.size : Int) by omega), List.drop_length, hn]
      rfl
def bytS (w : ByteArray) : Option (List Int) := bif strEq w ⟨#[45]⟩ then some [] else if w.size = 0 ∨ w.size % 2 ≠ 0 then none else hexL (strBytes w) []
theorem bytesOf_is (k : Nat) (w : ByteArray) (hw : w.size ≤ k) (hw2 : w.size ≤ 1048576) : ∃ y, R32 (k + 2) w = some y ∧ match bytS w with | some b => y = (b, true) | none => y.2 = false := by
  have hn := strBytes_n w
  rw [u32]
  unfold r32 bytS
  rw [strEq_nil]
  cases strEq w ⟨#[45]⟩ with
  | true => exact ⟨_, rfl, rfl⟩
  | false =>
    simp only [cond_false]
    by_cases z : w.size = 0
    · rw [decide_eq_true z, if_pos (show w.size = 0 ∨ w.size % 2 ≠ 0 from .inl z)]
      exact ⟨_, rfl, rfl⟩
    · have t : (w.size : Int).tmod 2 = ((w.size % 2 : Nat) : Int) := rfl
      rw [decide_eq_false z, if_neg (show ¬ (2 : Int) = 0 by decide), t]
      simp only [beq_self_eq_true, cond_true]
      by_cases o : w.size % 2 = 0
      · rw [decide_eq_true (show ((w.size % 2 : Nat) : Int) = 0 by omega), if_neg (show ¬ (w.size = 0 ∨ w.size % 2 ≠ 0) by omega)]
        have L : J32_0 (k + 1) (k + 1) (w, 0, []) = _ := bytes_loop k w hw2 (k + 1) 0 [] (by omega) (by omega) (by omega) (by simp)
        rw [List.drop_zero] at L
        simp only [Bool.not_true, cond_false]
        rw [L, Option.bind_some]
        cases hexL (strBytes w) [] with
        | none => exact ⟨_, rfl, rfl⟩
        | some b => exact ⟨_, rfl, rfl⟩
      · rw [decide_eq_false (show ¬ ((w.size % 2 : Nat) : Int) = 0 by omega), if_pos (show w.size = 0 ∨ w.size % 2 ≠ 0 from .inr o)]
        exact ⟨_, rfl, rfl⟩
theorem rbytesOf_is (k : Nat) (w : ByteArray) (hw : w.size ≤ k) (hw2 : w.size ≤ 1048576) : ∃ y, R44 (k + 19) w = some y ∧ match bytS w with | some b => y = (b, true) | none => y.2 = false := by
  have hn := strBytes_n w
  rw [u44]
  unfold r44 bytS
  rw [strEq_nil]
  cases strEq w ⟨#[45]⟩ with
  | true => exact ⟨_, rfl, rfl⟩
  | false =>
    simp only [cond_false]
    by_cases z : w.size = 0
    · rw [decide_eq_true z, if_pos (show w.size = 0 ∨ w.size % 2 ≠ 0 from .inl z)]
      exact ⟨_, rfl, rfl⟩
    · have t : (w.size : Int).tmod 2 = ((w.size % 2 : Nat) : Int) := rfl
      rw [decide_eq_false z, if_neg (show ¬ (2 : Int) = 0 by decide), t]
      simp only [beq_self_eq_true, cond_true]
      by_cases o : w.size % 2 = 0
      · rw [decide_eq_true (show ((w.size % 2 : Nat) : Int) = 0 by omega), if_neg (show ¬ (w.size = 0 ∨ w.size % 2 ≠ 0) by omega)]
        have L : J44_0 (k + 18) (k + 18) (w, 0, []) = _ := rbytes_loop k w hw2 (k + 18) 0 [] (by omega) (by omega) (by omega) (by simp)
        rw [List.drop_zero] at L
        simp only [Bool.not_true, cond_false]
        rw [L, Option.bind_some]
        cases hexL (strBytes w) [] with
        | none => exact ⟨_, rfl, rfl⟩
        | some b => exact ⟨_, rfl, rfl⟩
      · rw [decide_eq_false (show ¬ ((w.size % 2 : Nat) : Int) = 0 by omega), if_pos (show w.size = 0 ∨ w.size % 2 ≠ 0 from .inr o)]
        exact ⟨_, rfl, rfl⟩
/-! The reference's number. -/
def refN : List Int → Int → Option Int
  | [], n => if n > 999999999 then none else some n
  | c :: l, n => if 48 ≤ c ∧ c ≤ 57 then (if n = 0 ∨ n > 999999999 then none else refN l (10 * n + (c - 48))) else none
theorem refN_big : ∀ (l : List Int) (n : Int), n > 999999999 → refN l n = none
  | [], n, h => by unfold refN; rw [if_pos h]
  | c :: l, n, h => by
    unfold refN
    split
    · rw [if_pos (.inr h)]
    · rfl
theorem refN_num : ∀ (l : List Int) (n : Int), 0 < n → n ≤ 999999999 → refN l n = numL l n
  | [], n, h0, h => by unfold refN numL; rw [if_neg (by omega)]
  | c :: l, n, h0, h => by
    unfold refN numL
    by_cases c1 : 48 ≤ c ∧ c ≤ 57
    · rw [if_pos c1, if_neg (by omega)]
      by_cases c2 : 10 * n + (c - 48) ≤ 999999999
      · rw [if_pos ⟨c1.1, c1.2, c2⟩]
        exact refN_num l _ (by omega) c2
      · rw [if_neg (fun h => c2 h.2.2)]
        exact refN_big l _ (by omega)
    · rw [if_neg c1, if_neg (fun h => c1 ⟨h.1, h.2.1⟩)]
/-- What is told in the end of where the loop stops. -/
def rEnd (len : Int) (s : (List Int × Int × Int × Int × Int) ⊕ (Int × Int)) : Int :=
  match s with
  | .inr o => if o.2 = len ∧ ¬ o.2 < 1 then o.1 else -1
  | .inl y => if y.2.2.2.2 = 0 ∨ y.2.2.2.1 > 999999999 then -1 else if y.2.2.2.2 = len ∧ ¬ y.2.2.2.2 < 1 then y.2.2.2.1 else -1
theorem rEnd_bad (n : Nat) : rEnd (n : Int) (.inr (0, -1)) = -1 := by
  show (if (-1 : Int) = (n : Int) ∧ ¬ (-1 : Int) < 1 then (0 : Int) else -1) = -1
  exact if_neg (by omega)
theorem ref_loop (b : List Int) (hb : ∀ x ∈ b, 0 ≤ x ∧ x ≤ 255) (hl : b.length ≤ 1099511627776) : ∀ (m i : Nat) (n : Int), b.length - i < m → 1 ≤ i → i ≤ b.length → 0 ≤ n → n ≤ 9999999999 →
    ∃ s, iter F58_0 m (b, 0, 999999999, n, (i : Int)) = some s ∧ (match s with | .inr o => True | .inl y => y.2.1 = 0 ∧ y.2.2.1 = 999999999) ∧ rEnd (b.length : Int) s = (match refN (b.drop i) n with | some v => v | none => -1)
  | 0, i, n, h, _, _, _, _ => by omega
  | m + 1, i, n, hm, h1, hi, hn0, hn1 => by
    show ∃ s, F58_0 (iter F58_0 m) _ = some s ∧ _
    unfold F58_0
    simp only
    by_cases h : i < b.length
    · have hd : b.drop i = b[i] :: b.drop (i + 1) := List.drop_eq_getElem_cons h
      have hx := hb b[i] (List.getElem_mem h)
      have h2 : 0 ≤ (i : Int) ∧ (i : Int) < (b.length : Int) := by omega
      rw [hd]
      simp only [decide_eq_true (show (i : Int) < (b.length : Int) by omega), beq_self_eq_true, cond_true, if_pos h2, getD_b b h, succ_b (Nat.le_of_lt h) hl]
      have ih := fun v hv0 hv1 => ref_loop b hb hl m (i + 1) v (by omega) (by omega) h hv0 hv1
      generalize b[i] = x at *
      have stop : ¬ (48 ≤ x ∧ x ≤ 57) → rEnd (b.length : Int) (.inl (b, 0, 999999999, n, (i : Int))) = -1 := by
        intro _
        unfold rEnd
        simp only
        split
        · rfl
        · rw [if_neg (by omega)]
      by_cases c1 : 48 ≤ x
      · by_cases c2 : x ≤ 57
        · unfold refN
          rw [if_pos ⟨c1, c2⟩]
          simp only [ge_iff_le, decide_eq_true c1, decide_eq_true c2, beq_self_eq_true, cond_true, decide_eq_true (show (i : Int) > 0 by omega)]
          by_cases z : n = 0
          · rw [decide_eq_true z, if_pos (show n = 0 ∨ n > 999999999 from .inl z)]
            exact ⟨_, rfl, trivial, rEnd_bad _⟩
          · rw [decide_eq_false z]
            by_cases g : n > 999999999
            · rw [decide_eq_true g, if_pos (show n = 0 ∨ n > 999999999 from .inr g)]
              exact ⟨_, rfl, trivial, rEnd_bad _⟩
            · have e1 : IntKind.wrap .i64 (n * 10) = n * 10 := w64 (by omega) (by omega)
              have e2 : IntKind.wrap .u8 (x - 48) = x - 48 := wu8b (by omega) (by omega)
              have e3 : IntKind.wrap .i64 (x - 48) = x - 48 := w64 (by omega) (by omega)
              have e4 : IntKind.wrap .i64 (n * 10 + (x - 48)) = 10 * n + (x - 48) := by rw [w64 (by omega) (by omega)]; omega
              rw [decide_eq_false g, if_neg (show ¬ (n = 0 ∨ n > 999999999) by omega)]
              simp only [beq_self_eq_true, cond_true, cond_false, e1, e2, e3, e4]
              exact ih _ (by omega) (by omega)
        · have hno : ¬ (48 ≤ x ∧ x ≤ 57) := fun h => c2 h.2
          unfold refN
          rw [if_neg hno]
          simp only [ge_iff_le, decide_eq_true c1, decide_eq_false c2, beq_self_eq_true, cond_true, cond_false]
          exact ⟨_, rfl, ⟨rfl, rfl⟩, stop hno⟩
      · have hno : ¬ (48 ≤ x ∧ x ≤ 57) := fun h => c1 h.1
        unfold refN
        rw [if_neg hno]
        simp only [ge_iff_le, decide_eq_false c1, show (false == true) = false from rfl, cond_false]
        exact ⟨_, rfl, ⟨rfl, rfl⟩, stop hno⟩
    · obtain rfl : i = b.length := by omega
      rw [List.drop_length]
      simp only [decide_eq_false (show ¬ (b.length : Int) < (b.length : Int) by omega), show (false == true) = false from rfl, cond_false]
      refine ⟨_, rfl, ⟨rfl, rfl⟩, ?_⟩
      unfold refN
      show (if (b.length : Int) = 0 ∨ n > 999999999 then (-1 : Int) else if (b.length : Int) = (b.length : Int) ∧ ¬ (b.length : Int) < 1 then n else -1) = _
      by_cases g : n > 999999999
      · rw [if_pos (show (b.length : Int) = 0 ∨ n > 999999999 from .inr g), if_pos g]
      · rw [if_neg (show ¬ ((b.length : Int) = 0 ∨ n > 999999999) by omega), if_neg g, if_pos (show (b.length : Int) = (b.length : Int) ∧ ¬ (b.length : Int) < 1 by omega)]
theorem rnumber_is (k : Nat) (w : ByteArray) (hw : w.size < k) (hw2 : w.size ≤ 1048576) : R41 (k + 2) w = some (match numS (strBytes w) with | some v => v | none => -1) := by
  have hn := strBytes_n w
  have key : ∃ s, J58_0 k k (strBytes w, 0, 999999999, 0, 0) = some s ∧ (match s with | .inr o => True | .inl y => y.2.1 = 0 ∧ y.2.2.1 = 999999999) ∧ rEnd (w.size : Int) s = (match numS (strBytes w) with | some v => v | none => -1) := by
    obtain ⟨m, rfl⟩ : ∃ m, k = m + 1 := ⟨k - 1, by omega⟩
    rw [j58_0]
    unfold F58_0
    simp only
    cases hb : strBytes w with
    | nil =>
      rw [hb] at hn
      simp only [List.length_nil] at hn ⊢
      refine ⟨.inl ([], 0, 999999999, 0, 0), rfl, ⟨rfl, rfl⟩, ?_⟩
      unfold rEnd numS
      simp
    | cons x l =>
      have hx := strBytes_ok w x (by rw [hb]; simp)
      have hn' : (x :: l).length = w.size := by rw [← hb]; exact hn
      have hl0 : (0 : Int) < ((x :: l).length : Int) := by rw [List.length_cons]; omega
      have h2 : 0 ≤ (0 : Int) ∧ (0 : Int) < ((x :: l).length : Int) := ⟨by omega, hl0⟩
      have g0 : (x :: l).getD (0 : Int).toNat 0 = x := rfl
      have e0 : IntKind.wrap .i64 ((0 : Int) + 1) = ((1 : Nat) : Int) := rfl
      simp only [decide_eq_true hl0, beq_self_eq_true, cond_true, if_pos h2, g0, e0]
      have stop : rEnd (w.size : Int) (.inl (x :: l, 0, 999999999, 0, 0)) = -1 := by
        unfold rEnd
        simp
      by_cases c1 : 48 ≤ x
      · by_cases c2 : x ≤ 57
        · have e1 : IntKind.wrap .i64 (0 * 10) = 0 := rfl
          have e2 : IntKind.wrap .u8 (x - 48) = x - 48 := wu8b (by omega) (by omega)
          have e3 : IntKind.wrap .i64 (x - 48) = x - 48 := w64 (by omega) (by omega)
          have e4 : IntKind.wrap .i64 (0 + (x - 48)) = x - 48 := by rw [w64 (by omega) (by omega)]; omega
          simp only [ge_iff_le, decide_eq_true c1, decide_eq_true c2, beq_self_eq_true, cond_true, show decide ((0 : Int) > 0) = false from rfl, show (false == true) = false from rfl, cond_false, show decide ((0 : Int) > 999999999) = false from rfl, e1, e2, e3, e4]
          obtain ⟨s, q1, q2, q3⟩ := ref_loop (x :: l) (by rw [← hb]; exact strBytes_ok w) (by rw [hn']; omega) m 1 (x - 48) (by rw [hn']; omega) (by omega) (by rw [hn']; rw [List.length_cons] at hn'; omega) (by omega) (by omega)
          refine ⟨s, q1, q2, ?_⟩
          rw [hn'] at q3
          rw [q3]
          show (match refN l (x - 48) with | some v => v | none => -1) = _
          unfold numS
          simp only
          by_cases z : x = 48
          · subst z
            cases l with
            | nil => rfl
            | cons y l' =>
              rw [if_pos ⟨rfl, by simp⟩]
              unfold refN
              split
              · rename_i v hv
                split at hv
                · rw [if_pos (.inl (by omega))] at hv; cases hv
                · cases hv
              · rfl
          · rw [if_neg (fun h => z h.1), numL, if_pos ⟨c1, c2, by omega⟩, refN_num l _ (by omega) (by omega), show 10 * 0 + (x - 48) = x - 48 by omega]
        · simp only [ge_iff_le, decide_eq_true c1, decide_eq_false c2, beq_self_eq_true, cond_true, cond_false]
          refine ⟨_, rfl, ⟨rfl, rfl⟩, ?_⟩
          rw [stop]
          unfold numS
          simp only
          rw [if_neg (by omega), numL, if_neg (by omega)]
      · simp only [ge_iff_le, decide_eq_false c1, show (false == true) = false from rfl, cond_false]
        refine ⟨_, rfl, ⟨rfl, rfl⟩, ?_⟩
        rw [stop]
        unfold numS
        simp only
        rw [if_neg (by omega), numL, if_neg (by omega)]
  rw [u41]
  unfold r41
  rw [if_pos (by omega), u58]
  unfold r58
  obtain ⟨s, q1, q2, q3⟩ := key
  rw [q1, ← q3]
  simp only [Option.bind_some]
  cases s with
  | inr o =>
    unfold rEnd
    simp only [onSum, Option.bind_some]
    by_cases a : o.2 = (w.size : Int)
    · rw [decide_eq_true a]
      by_cases a2 : o.2 < 1
      · rw [decide_eq_true a2, if_neg (by omega)]; rfl
      · rw [decide_eq_false a2, if_pos ⟨a, a2⟩]; rfl
    · rw [decide_eq_false a, if_neg (fun h => a h.1)]; rfl
  | inl y =>
    obtain ⟨p1, p2⟩ := q2
    unfold rEnd
    simp only [onSum, p1, p2]
    by_cases a0 : y.2.2.2.2 = 0
    · rw [decide_eq_true a0, if_pos (.inl a0)]
      simp only [show (true == false) = false from rfl, cond_false, Option.bind_some]
      by_cases a : (-1 : Int) = (w.size : Int)
      · omega
      · rw [decide_eq_false a]; rfl
    · rw [decide_eq_false a0]
      by_cases a1 : y.2.2.2.1 > 999999999
      · rw [decide_eq_true a1, if_pos (.inr a1)]
        simp only [beq_self_eq_true, cond_true, Option.bind_some]
        rw [decide_eq_false (show ¬ (-1 : Int) = (w.size : Int) by omega)]; rfl
      · rw [decide_eq_false a1, if_neg (by omega)]
        simp only [beq_self_eq_true, cond_true, cond_false, Option.bind_some]
        by_cases a : y.2.2.2.2 = (w.size : Int)
        · rw [decide_eq_true a]
          by_cases a2 : y.2.2.2.2 < 1
          · rw [decide_eq_true a2, if_neg (by omega)]; rfl
          · rw [decide_eq_false a2, if_pos ⟨a, a2⟩]; rfl
        · rw [decide_eq_false a, if_neg (fun h => a h.1)]; rfl
end Go.Proofs.YtdmmcjefpbbceaaDoor.ELineWrites
