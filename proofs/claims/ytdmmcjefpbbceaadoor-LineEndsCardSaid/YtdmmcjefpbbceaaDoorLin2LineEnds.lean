import Derived.Test.YtdmmcjefpbbceaaDoorLinLineEnds
namespace Go.Proofs.YtdmmcjefpbbceaaDoor.ELineEnds
open Go Go.Proofs.YtdmmcjefpbbceaaDoor.AE Go.Proofs.YtdmmcjefpbbceaaDoor
set_option linter.unusedVariables false
set_option linter.unusedSimpArgs false
/-! Bytes. -/
abbrev DIG : ByteArray := ⟨#[48, 49, 50, 51, 52, 53, 54, 55, 56, 57, 97, 98, 99, 100, 101, 102]⟩
def hexS (c : Int) : Int := Lib.indexByte DIG.data.toList c.toNat.toUInt8
def hexL : List Int → List Int → Option (List Int)
  | x :: y :: l, acc => if hexS x < 0 ∨ hexS y < 0 then none else hexL l (acc ++ [16 * hexS x + hexS y])
  | _, acc => some acc
theorem hexS_le (c : Int) : -1 ≤ hexS c ∧ hexS c ≤ 15 := by
  refine ⟨Lib.indexByte_ge _ _, ?_⟩
  have key : ∀ (l : List UInt8) (b : UInt8), Lib.indexByte l b ≤ (l.length : Int) - 1 := by
    intro l b
    induction l with
    | nil => simp [Lib.indexByte]
    | cons a l ih =>
      unfold Lib.indexByte
      rw [List.length_cons]
      split
      · omega
      · split
        · omega
        · omega
  exact key _ _
theorem idx_is (k : Nat) (c : Int) : R53 (k + 1) DIG c = some (hexS c) := rfl
theorem dig_at : ∀ i : Nat, i < 16 → byteAt DIG (i : Int) = ((DIG.data.toList.getD i 0).toNat : Int) := by decide
theorem bytes_loop (k : Nat) (s : ByteArray) (hs : s.size ≤ 1048576) : ∀ (m i : Nat) (acc : List Int), (strBytes s).length - i < m → i ≤ (strBytes s).length → ((strBytes s).length - i) % 2 = 0 → acc.length ≤ i →
    J32_0 (k + 1) m (s, (i : Int), acc) = some (match hexL ((strBytes s).drop i) acc with | some b => .inl (s, (s.size : Int), b) | none => .inr ([], false)) := by
  have hn := strBytes_n s
  intro m
  induction m with
  | zero => intro i acc h; omega
  | succ m ih =>
    intro i acc hm hi hp ha
    rw [j32_0]
    unfold F32_0
    simp only
    by_cases h : i < (strBytes s).length
    · have h2 : i + 1 < (strBytes s).length := by omega
      have hd : (strBytes s).drop i = (strBytes s)[i] :: (strBytes s)[i + 1] :: (strBytes s).drop (i + 2) := by
        rw [List.drop_eq_getElem_cons h, List.drop_eq_getElem_cons h2]
      have b1 := byteAt_is s i h
      have b2 := byteAt_is s (i + 1) h2
      have e1 : IntKind.wrap .i64 ((i : Int) + 1) = ((i + 1 : Nat) : Int) := by rw [w64 (by omega) (by omega)]; omega
      have e2 : IntKind.wrap .i64 ((i : Int) + 2) = ((i + 2 : Nat) : Int) := by rw [w64 (by omega) (by omega)]; omega
      rw [hd, decide_eq_true (show (i : Int) < (s.size : Int) by omega), cond_true, if_pos (show 0 ≤ (i : Int) ∧ (i : Int) < (s.size : Int) by omega), b1]
      have q1 := idx_is k (strBytes s)[i]
      have q2 := idx_is k (strBytes s)[i + 1]
      rw [q1, Option.bind_some, e1, if_pos (show 0 ≤ ((i + 1 : Nat) : Int) ∧ ((i + 1 : Nat) : Int) < (s.size : Int) by omega), b2, q2, Option.bind_some]
      have l1 := hexS_le (strBytes s)[i]
      have l2 := hexS_le (strBytes s)[i + 1]
      unfold hexL
      generalize hexS (strBytes s)[i] = x at *
      generalize hexS (strBytes s)[i + 1] = y at *
      by_cases c1 : x < 0
      · rw [decide_eq_true c1, if_pos (show x < 0 ∨ y < 0 from .inl c1)]
        rfl
      · rw [decide_eq_false c1]
        by_cases c2 : y < 0
        · rw [decide_eq_true c2, if_pos (show x < 0 ∨ y < 0 from .inr c2)]
          rfl
        · have w1 : IntKind.wrap .i64 (16 * x) = 16 * x := w64 (by omega) (by omega)
          have w2 : IntKind.wrap .i64 (16 * x + y) = 16 * x + y := w64 (by omega) (by omega)
          have w3 : IntKind.wrap .u8 (16 * x + y) = 16 * x + y := wu8b (by omega) (by omega)
          rw [decide_eq_false c2, w1, w2, w3, e2, if_neg (show ¬ (x < 0 ∨ y < 0) by omega)]
          simp only [beq_self_eq_true, cond_true, cond_false]
          rw [if_pos (by simp only [List.length_cons, List.length_nil]; omega)]
          exact ih (i + 2) (acc ++ [16 * x + y]) (by omega) (by omega) (by omega) (by rw [List.length_append]; simp; omega)
    · obtain rfl : i = (strBytes s).length := by omega
      rw [decide_eq_false (show ¬ ((strBytes s).length : Int) < (s.size : Int) by omega), List.drop_length, hn]
      rfl
def bytS (w : ByteArray) : Option (List Int) := bif strEq w ⟨#[45]⟩ then some [] else if w.size = 0 ∨ w.size % 2 ≠ 0 then none else hexL (strBytes w) []
theorem bytesOf_is (k : Nat) (w : ByteArray) (hw : w.size ≤ k) (hw2 : w.size ≤ 1048576) : ∃ y, R32 (k + 2) w = some y ∧ match bytS w with | some b => y = (b, true) | none => y.2 = false := by
  have hn := strBytes_n w
  rw [u32]
  unfold r32 bytS
  rw [strEq_nil]
  cases strEq w ⟨#[45]⟩ with
  | true => exact ⟨_, rfl, rfl⟩
  | false =>
    simp only [cond_false]
    by_cases z : w.size = 0
    · rw [decide_eq_true z, if_pos (show w.size = 0 ∨ w.size % 2 ≠ 0 from .inl z)]
      exact ⟨_, rfl, rfl⟩
    · have t : (w.size : Int).tmod 2 = ((w.size % 2 : Nat) : Int) := rfl
      rw [decide_eq_false z, if_neg (show ¬ (2 : Int) = 0 by decide), t]
      simp only [beq_self_eq_true, cond_true]
      by_cases o : w.size % 2 = 0
      · rw [decide_eq_true (show ((w.size % 2 : Nat) : Int) = 0 by omega), if_neg (show ¬ (w.size = 0 ∨ w.size % 2 ≠ 0) by omega)]
        have L : J32_0 (k + 1) (k + 1) (w, 0, []) = _ := bytes_loop k w hw2 (k + 1) 0 [] (by omega) (by omega) (by omega) (by simp)
        rw [List.drop_zero] at L
        simp only [Bool.not_true, cond_false]
        rw [L, Option.bind_some]
        cases hexL (strBytes w) [] with
        | none => exact ⟨_, rfl, rfl⟩
        | some b => exact ⟨_, rfl, rfl⟩
      · rw [decide_eq_false (show ¬ ((w.size % 2 : Nat) : Int) = 0 by omega), if_pos (show w.size = 0 ∨ w.size % 2 ≠ 0 from .inr o)]
        exact ⟨_, rfl, rfl⟩
def refN : List Int → Int → Option Int
  | [], n => if n > 999999999 then none else some n
  | c :: l, n => if 48 ≤ c ∧ c ≤ 57 then (if n = 0 ∨ n > 999999999 then none else refN l (10 * n + (c - 48))) else none
theorem refN_big : ∀ (l : List Int) (n : Int), n > 999999999 → refN l n = none
  | [], n, h => by unfold refN; rw [if_pos h]
  | c :: l, n, h => by
    unfold refN
    split
    · rw [if_pos (.inr h)]
    · rfl
theorem refN_num : ∀ (l : List Int) (n : Int), 0 < n → n ≤ 999999999 → refN l n = numL l n
  | [], n, h0, h => by unfold refN numL; rw [if_neg (by omega)]
  | c :: l, n, h0, h => by
    unfold refN numL
    by_cases c1 : 48 ≤ c ∧ c ≤ 57
    · rw [if_pos c1, if_neg (by omega)]
      by_cases c2 : 10 * n + (c - 48) ≤ 999999999
      · rw [if_pos ⟨c1.1, c1.2, c2⟩]
        exact refN_num l _ (by omega) c2
      · rw [if_neg (fun h => c2 h.2.2)]
        exact refN_big l _ (by omega)
    · rw [if_neg c1, if_neg (fun h => c1 ⟨h.1, h.2.1⟩)]
/-- What is told in the end of where the loop stops. -/
def rEnd (len : Int) (s : (List Int × Int × Int × Int × Int) ⊕ (Int × Int)) : Int :=
  match s with
  | .inr o => if o.2 = len ∧ ¬ o.2 < 1 then o.1 else -1
  | .inl y => if y.2.2.2.2 = 0 ∨ y.2.2.2.1 > 999999999 then -1 else if y.2.2.2.2 = len ∧ ¬ y.2.2.2.2 < 1 then y.2.2.2.1 else -1
theorem rEnd_bad (n : Nat) : rEnd (n : Int) (.inr (0, -1)) = -1 := by
  show (if (-1 : Int) = (n : Int) ∧ ¬ (-1 : Int) < 1 then (0 : Int) else -1) = -1
  exact if_neg (by omega)
end Go.Proofs.YtdmmcjefpbbceaaDoor.ELineEnds
