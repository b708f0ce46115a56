import Derived.Test.YtdmmcjefpbbceaaDoorResKit
import Derived.Test.YtdmmcjefpbbceaaDoorResLineWrites
namespace Go.Proofs.YtdmmcjefpbbceaaDoor.ELineWrites
open Go Go.Proofs.YtdmmcjefpbbceaaDoor.AE Go.Proofs.YtdmmcjefpbbceaaDoor
set_option linter.unusedVariables false
set_option linter.unusedSimpArgs false
/-! A command's words. -/
abbrev Cmd : Type := Int × Int × Int × Int × Int × Int × List Int × List Int
def cmd0 : Cmd := (0, 0, 0, 0, 0, 0, [], [])
def kindS (w : ByteArray) : Int :=
  bif strEq ⟨#[100, 105, 102, 102]⟩ w then 1 else bif strEq ⟨#[115, 116, 101, 112, 115]⟩ w then 2 else bif strEq ⟨#[110, 101, 97, 114]⟩ w then 3 else
  bif strEq ⟨#[97, 112, 112, 108, 121]⟩ w then 4 else bif strEq ⟨#[117, 110, 100, 111]⟩ w then 5 else 0
theorem kind_loop (k : Nat) (w : ByteArray) : J16_0 (k + 6) (k + 6) (w, 1) = some (bif decide (kindS w = 0) then .inl (w, 6) else .inr (kindS w, true)) := by
  have step : ∀ (m : Nat) (i : Int) (nm : ByteArray), R19 (k + 6) i = some nm → 1 ≤ i → i ≤ 5 →
      J16_0 (k + 6) (m + 1) (w, i) = bif strEq nm w then some (.inr (i, true)) else J16_0 (k + 6) m (w, i + 1) := by
    intro m i nm hn h1 h2
    rw [j16_0]
    unfold F16_0
    have e : IntKind.wrap .i64 (i + 1) = i + 1 := w64 (by omega) (by omega)
    simp only [decide_eq_true h2, cond_true, hn, Option.bind_some, e]
  have s1 := step (k + 5) 1 _ rfl (by omega) (by omega)
  have s2 := step (k + 4) (1 + 1) _ rfl (by omega) (by omega)
  have s3 := step (k + 3) (1 + 1 + 1) _ rfl (by omega) (by omega)
  have s4 := step (k + 2) (1 + 1 + 1 + 1) _ rfl (by omega) (by omega)
  have s5 := step (k + 1) (1 + 1 + 1 + 1 + 1) _ rfl (by omega) (by omega)
  unfold kindS
  rw [s1]
  cases strEq ⟨#[100, 105, 102, 102]⟩ w with
  | true => rfl
  | false =>
    rw [cond_false, cond_false, s2]
    cases strEq ⟨#[115, 116, 101, 112, 115]⟩ w with
    | true => rfl
    | false =>
      rw [cond_false, cond_false, s3]
      cases strEq ⟨#[110, 101, 97, 114]⟩ w with
      | true => rfl
      | false =>
        rw [cond_false, cond_false, s4]
        cases strEq ⟨#[97, 112, 112, 108, 121]⟩ w with
        | true => rfl
        | false =>
          rw [cond_false, cond_false, s5]
          cases strEq ⟨#[117, 110, 100, 111]⟩ w with
          | true => rfl
          | false => rfl
theorem kind_is (k : Nat) (w : ByteArray) : R16 (k + 7) w = some (bif decide (kindS w = 0) then (0, false) else (kindS w, true)) := by
  rw [u16]
  unfold r16
  rw [kind_loop, Option.bind_some]
  cases decide (kindS w = 0) <;> rfl
theorem kindS_le (w : ByteArray) : 0 ≤ kindS w ∧ kindS w ≤ 5 := by
  unfold kindS
  cases strEq ⟨#[100, 105, 102, 102]⟩ w <;> cases strEq ⟨#[115, 116, 101, 112, 115]⟩ w <;> cases strEq ⟨#[110, 101, 97, 114]⟩ w <;> cases strEq ⟨#[97, 112, 112, 108, 121]⟩ w <;> cases strEq ⟨#[117, 110, 100, 111]⟩ w <;> decide
theorem rkind_is (k : Nat) (w : ByteArray) : R24 (k + 7) w = some (kindS w) := by
  rw [u24]
  unfold r24
  dsimp only
  generalize hL : ([(⟨#[100, 105, 102, 102]⟩ : ByteArray), (⟨#[115, 116, 101, 112, 115]⟩ : ByteArray), (⟨#[110, 101, 97, 114]⟩ : ByteArray), (⟨#[97, 112, 112, 108, 121]⟩ : ByteArray), (⟨#[117, 110, 100, 111]⟩ : ByteArray)] : List ByteArray) = L
  have hlen : L.length = 5 := by rw [← hL]; rfl
  have step : ∀ (m : Nat) (i : Int) (nm : ByteArray), L.getD i.toNat ByteArray.empty = nm → 0 ≤ i → i < 5 →
      J24_0 (k + 6) (m + 1) (w, L, i) = bif strEq nm w then some (.inr (i + 1)) else J24_0 (k + 6) m (w, L, i + 1) := by
    intro m i nm hn h1 h2
    rw [j24_0]
    unfold F24_0
    have e : IntKind.wrap .i64 (i + 1) = i + 1 := w64 (by omega) (by omega)
    have e2 : (0 ≤ i ∧ i < (L.length : Int)) := ⟨h1, by omega⟩
    have e3 : decide (i < (L.length : Int)) = true := decide_eq_true (by omega)
    simp only [e3, cond_true, if_pos e2, hn, e]
  have s1 := step (k + 5) 0 ⟨#[100, 105, 102, 102]⟩ (by subst hL; rfl) (by omega) (by omega)
  have s2 := step (k + 4) (0 + 1) ⟨#[115, 116, 101, 112, 115]⟩ (by subst hL; rfl) (by omega) (by omega)
  have s3 := step (k + 3) (0 + 1 + 1) ⟨#[110, 101, 97, 114]⟩ (by subst hL; rfl) (by omega) (by omega)
  have s4 := step (k + 2) (0 + 1 + 1 + 1) ⟨#[97, 112, 112, 108, 121]⟩ (by subst hL; rfl) (by omega) (by omega)
  have s5 := step (k + 1) (0 + 1 + 1 + 1 + 1) ⟨#[117, 110, 100, 111]⟩ (by subst hL; rfl) (by omega) (by omega)
  have s6 : J24_0 (k + 6) (k + 1) (w, L, 0 + 1 + 1 + 1 + 1 + 1) = some (.inl (w, L, 5)) := by
    rw [j24_0]
    unfold F24_0
    have e3 : decide ((0 + 1 + 1 + 1 + 1 + 1 : Int) < (L.length : Int)) = false := decide_eq_false (by omega)
    simp only [e3, cond_false]
    rfl
  unfold kindS
  rw [s1]
  cases strEq ⟨#[100, 105, 102, 102]⟩ w with
  | true => rfl
  | false =>
    rw [cond_false, cond_false, s2]
    cases strEq ⟨#[115, 116, 101, 112, 115]⟩ w with
    | true => rfl
    | false =>
      rw [cond_false, cond_false, s3]
      cases strEq ⟨#[110, 101, 97, 114]⟩ w with
      | true => rfl
      | false =>
        rw [cond_false, cond_false, s4]
        cases strEq ⟨#[97, 112, 112, 108, 121]⟩ w with
        | true => rfl
        | false =>
          rw [cond_false, cond_false, s5]
          cases strEq ⟨#[117, 110, 100, 111]⟩ w with
          | true => rfl
          | false => rw [cond_false, cond_false, s6]; rfl
def formS (k : Int) : List Int := if k = 1 ∨ k = 2 then [0, 1, 2, 3, 5, 6] else if k = 3 then [0, 4, 5, 6] else [5, 6]
theorem form_is (k : Nat) (n : Int) : R17 (k + 1) n = some (formS n) := by
  rw [u17]
  unfold r17 formS
  by_cases h1 : n = 1
  · subst h1; rfl
  · by_cases h2 : n = 2
    · subst h2; rfl
    · by_cases h3 : n = 3
      · subst h3; rfl
      · simp only [decide_eq_false h1, decide_eq_false h2, decide_eq_false h3, cond_false, if_neg (show ¬ (n = 1 ∨ n = 2) by omega), if_neg h3]
/-! A mode, an engine. -/
def modeS (w : ByteArray) : Option Int := bif strEq w ⟨#[98, 121, 116, 101, 115]⟩ then some 0 else bif strEq w ⟨#[108, 105, 110, 101, 115]⟩ then some 1 else none
theorem mode_is (k : Nat) (w : ByteArray) : R29 (k + 1) w = some (match modeS w with | some m => (m, true) | none => (0, false)) := by
  rw [u29]
  unfold r29 modeS
  cases strEq w ⟨#[98, 121, 116, 101, 115]⟩ with
  | true => rfl
  | false => cases strEq w ⟨#[108, 105, 110, 101, 115]⟩ <;> rfl
theorem rmode_is (k : Nat) (w : ByteArray) : R42 (k + 1) w = some (match modeS w with | some m => (m, true) | none => (0, false)) := by
  rw [u42]
  unfold r42 modeS
  cases strEq w ⟨#[98, 121, 116, 101, 115]⟩ with
  | true => rfl
  | false => cases strEq w ⟨#[108, 105, 110, 101, 115]⟩ <;> rfl
def engN : Int → ByteArray
  | 1 => ⟨#[103, 114, 105, 100]⟩ | 2 => ⟨#[104, 97, 108, 118, 101]⟩ | 3 => ⟨#[114, 117, 115, 115]⟩ | 4 => ⟨#[104, 117, 110, 116]⟩
  | 5 => ⟨#[111, 110, 112]⟩ | 6 => ⟨#[98, 97, 110, 100]⟩ | 7 => ⟨#[104, 121, 121, 114, 111]⟩ | 8 => ⟨#[99, 114, 111, 99, 104]⟩ | _ => ⟨#[]⟩
/-- The first of the engines from one on that has that name. -/
def tagF (w : ByteArray) : Nat → Int → Int
  | 0, _ => 0
  | m + 1, i => bif strEq (engN i) w then i else tagF w m (i + 1)
def tagS (w : ByteArray) : Int := tagF w 8 1
theorem engN_is (k : Nat) (i : Int) (h1 : 1 ≤ i) (h2 : i ≤ 8) : R34 (k + 1) i = some (engN i) := by
  have : i = 1 ∨ i = 2 ∨ i = 3 ∨ i = 4 ∨ i = 5 ∨ i = 6 ∨ i = 7 ∨ i = 8 := by omega
  rcases this with rfl | rfl | rfl | rfl | rfl | rfl | rfl | rfl <;> rfl
theorem rengN_is (k : Nat) (i : Int) (h1 : 1 ≤ i) (h2 : i ≤ 8) : R46 (k + 1) i = some (engN i) := by
  have : i = 1 ∨ i = 2 ∨ i = 3 ∨ i = 4 ∨ i = 5 ∨ i = 6 ∨ i = 7 ∨ i = 8 := by omega
  rcases this with rfl | rfl | rfl | rfl | rfl | rfl | rfl | rfl <;> rfl
theorem tag_loop (k : Nat) (w : ByteArray) : ∀ (m : Nat) (d : Nat) (i : Int), 1 ≤ i → i + d = 9 → d < m →
    J52_0 (k + 1) m (w, i) = some (bif decide (tagF w d i = 0) then .inl (w, 9) else .inr (tagF w d i, true))
  | 0, d, i, _, _, h => by omega
  | m + 1, 0, i, h1, h2, _ => by
    rw [j52_0]
    unfold F52_0
    obtain rfl : i = 9 := by omega
    rfl
  | m + 1, d + 1, i, h1, h2, h3 => by
    rw [j52_0]
    unfold F52_0
    have e : IntKind.wrap .i64 (i + 1) = i + 1 := w64 (by omega) (by omega)
    simp only [decide_eq_true (show i ≤ 8 by omega), cond_true, engN_is k i h1 (by omega), Option.bind_some, e]
    cases hq : strEq (engN i) w with
    | true =>
      have et : tagF w (d + 1) i = i := by show (bif strEq (engN i) w then _ else _) = _; rw [hq]; rfl
      rw [et, decide_eq_false (show ¬ i = 0 by omega)]
      rfl
    | false =>
      have et : tagF w (d + 1) i = tagF w d (i + 1) := by show (bif strEq (engN i) w then _ else _) = _; rw [hq]; rfl
      rw [et]
      exact tag_loop k w m d (i + 1) (by omega) (by omega) (by omega)
theorem tag_is (k : Nat) (w : ByteArray) : R52 (k + 10) w = some (bif decide (tagS w = 0) then (0, false) else (tagS w, true)) := by
  rw [u52]
  unfold r52
  rw [tag_loop (k + 8) w (k + 9) 8 1 (by omega) (by omega) (by omega), Option.bind_some]
  unfold tagS
  cases decide (tagF w 8 1 = 0) <;> rfl
theorem rtag_loop (k : Nat) (w : ByteArray) : ∀ (m : Nat) (d : Nat) (i : Int), 1 ≤ i → i + d = 9 → d < m →
    J43_0 (k + 1) m (w, i) = some (bif decide (tagF w d i = 0) then .inl (w, 9) else .inr (tagF w d i, true))
  | 0, d, i, _, _, h => by omega
  | m + 1, 0, i, h1, h2, _ => by
    rw [j43_0]
    unfold F43_0
    obtain rfl : i = 9 := by omega
    rfl
  | m + 1, d + 1, i, h1, h2, h3 => by
    rw [j43_0]
    unfold F43_0
    have e : IntKind.wrap .i64 (i + 1) = i + 1 := w64 (by omega) (by omega)
    simp only [decide_eq_true (show i ≤ 8 by omega), cond_true, rengN_is k i h1 (by omega), Option.bind_some, e]
    cases hq : strEq (engN i) w with
    | true =>
      have et : tagF w (d + 1) i = i := by show (bif strEq (engN i) w then _ else _) = _; rw [hq]; rfl
      rw [et, decide_eq_false (show ¬ i = 0 by omega)]
      rfl
    | false =>
      have et : tagF w (d + 1) i = tagF w d (i + 1) := by show (bif strEq (engN i) w then _ else _) = _; rw [hq]; rfl
      rw [et]
      exact rtag_loop k w m d (i + 1) (by omega) (by omega) (by omega)
theorem rtag_is (k : Nat) (w : ByteArray) : R43 (k + 10) w = some (bif decide (tagS w = 0) then (0, false) else (tagS w, true)) := by
  rw [u43]
  unfold r43
  rw [rtag_loop (k + 8) w (k + 9) 8 1 (by omega) (by omega) (by omega), Option.bind_some]
  unfold tagS
  cases decide (tagF w 8 1 = 0) <;> rfl
def engS (w : ByteArray) : Option Int := bif strEq w ⟨#[97, 110, 121]⟩ then some 0 else bif decide (tagS w = 0) then none else some (tagS w)
theorem engine_is (k : Nat) (w : ByteArray) : ∃ y, R30 (k + 11) w = some y ∧ match engS w with | some e => y = (e, true) | none => y.2 = false := by
  rw [u30]
  unfold r30 engS
  cases strEq w ⟨#[97, 110, 121]⟩ with
  | true => exact ⟨_, rfl, rfl⟩
  | false =>
    simp only [cond_false, tag_is k w, Option.bind_some]
    cases decide (tagS w = 0) with
    | true => exact ⟨_, rfl, rfl⟩
    | false => exact ⟨_, rfl, rfl⟩
theorem any_tag : tagS ⟨#[97, 110, 121]⟩ = 0 := by decide +kernel
/-! A number. -/
def numL : List Int → Int → Option Int
  | [], n => some n
  | c :: l, n => if 48 ≤ c ∧ c ≤ 57 ∧ 10 * n + (c - 48) ≤ 999999999 then numL l (10 * n + (c - 48)) else none
def numS (b : List Int) : Option Int := match b with
  | [] => none
  | c :: l => if c = 48 ∧ 0 < l.length then none else numL (c :: l) 0
theorem getD_b {α : Type} (l : List α) {i : Nat} (h : i < l.length) (d : α) : l.getD ((i : Nat) : Int).toNat d = l[i] := by
  simp [List.getD, List.getElem?_eq_getElem h]
theorem succ_b {n i : Nat} (h : i ≤ n) (hn : n ≤ 1099511627776) : IntKind.wrap .i64 ((i : Int) + 1) = ((i + 1 : Nat) : Int) := by rw [w64 (by omega) (by omega)]; omega
theorem wu8b {x : Int} (h1 : 0 ≤ x) (h2 : x ≤ 255) : IntKind.wrap .u8 x = x := by
  simp only [IntKind.wrap, IntKind.signed, IntKind.bits, Bool.false_and, Bool.false_eq_true, if_false]
  omega
theorem num_loop (b : List Int) (hb : ∀ x ∈ b, 0 ≤ x ∧ x ≤ 255) (hl : b.length ≤ 1099511627776) : ∀ (m i : Nat) (n : Int), b.length - i < m → i ≤ b.length → 0 ≤ n → n ≤ 999999999 →
    iter F31_0 m (n, b, (b.length : Int), (i : Int)) = some (match numL (b.drop i) n with | some v => .inl (v, b, (b.length : Int), (b.length : Int)) | none => .inr (0, false))
  | 0, i, n, h, _, _, _ => by omega
  | m + 1, i, n, hm, hi, h0, h1 => by
    show F31_0 (iter F31_0 m) _ = _
    unfold F31_0
    simp only
    by_cases h : i < b.length
    · have hd : b.drop i = b[i] :: b.drop (i + 1) := List.drop_eq_getElem_cons h
      have hx := hb b[i] (List.getElem_mem h)
      rw [hd, decide_eq_true (show (i : Int) < (b.length : Int) by omega), cond_true, if_pos (show 0 ≤ (i : Int) ∧ (i : Int) < (b.length : Int) by omega), getD_b b h, succ_b (Nat.le_of_lt h) hl]
      have ih := fun v hv0 hv1 => num_loop b hb hl m (i + 1) v (by omega) h hv0 hv1
      generalize b[i] = x at *
      by_cases c1 : 48 ≤ x
      · rw [decide_eq_false (show ¬ x < 48 by omega)]
        by_cases c2 : x ≤ 57
        · have e1 : IntKind.wrap .i64 (10 * n) = 10 * n := w64 (by omega) (by omega)
          have e2 : IntKind.wrap .u8 (x - 48) = x - 48 := wu8b (by omega) (by omega)
          have e3 : IntKind.wrap .i64 (x - 48) = x - 48 := w64 (by omega) (by omega)
          have e4 : IntKind.wrap .i64 (10 * n + (x - 48)) = 10 * n + (x - 48) := w64 (by omega) (by omega)
          rw [decide_eq_false (show ¬ x > 57 by omega), e1, e2, e3, e4]
          by_cases c3 : 10 * n + (x - 48) ≤ 999999999
          · rw [decide_eq_false (show ¬ 10 * n + (x - 48) > 999999999 by omega), numL, if_pos ⟨c1, c2, c3⟩]
            exact ih _ (by omega) c3
          · rw [decide_eq_true (show 10 * n + (x - 48) > 999999999 by omega), numL, if_neg (fun h => c3 h.2.2)]
            rfl
        · rw [decide_eq_true (show x > 57 by omega), numL, if_neg (fun h => c2 h.2.1)]
          rfl
      · rw [decide_eq_true (show x < 48 by omega), numL, if_neg (fun h => c1 h.1)]
        rfl
    · obtain rfl : i = b.length := by omega
      rw [decide_eq_false (show ¬ (b.length : Int) < (b.length : Int) by omega), List.drop_length]
      rfl
theorem strBytes_ok (s : ByteArray) : ∀ a ∈ strBytes s, 0 ≤ a ∧ a ≤ 255 := by
  intro a ha
  unfold strBytes at ha
  obtain ⟨x, _, rfl⟩ := List.mem_map.1 ha
  have := x.toNat_lt
  omega
theorem strBytes_n (s : ByteArray) : (strBytes s).length = s.size := List.length_map ..
theorem byteAt_is (s : ByteArray) (i : Nat) (h : i < (strBytes s).length) : byteAt s (i : Int) = (strBytes s)[i] := by
  unfold byteAt strBytes at *
  rw [List.length_map] at h
  simp only [Int.toNat_natCast, List.getElem_map]
  rw [Array.getD_eq_getD_getElem?, Array.getElem?_eq_getElem (by simpa using h)]
  simp
theorem strEq_nil (s : ByteArray) : strEq s ⟨#[]⟩ = decide (s.size = 0) := by
  unfold strEq
  rw [Bool.eq_iff_iff]
  simp only [beq_iff_eq, decide_eq_true_eq]
  constructor
  · intro h
    have := congrArg List.length h
    simpa using this
  · intro h
    have h2 : s.data.toList.length = 0 := by simpa using h
    rw [List.eq_nil_of_length_eq_zero h2]
theorem number_is (k : Nat) (w : ByteArray) (hw : w.size < k) (hw2 : w.size ≤ 1048576) : ∃ y, R31 (k + 1) w = some y ∧ match numS (strBytes w) with | some v => y = (v, true) | none => y.2 = false := by
  rw [u31]
  unfold r31
  have hn := strBytes_n w
  rw [strEq_nil]
  have L : J31_0 k k (0, strBytes w, ((strBytes w).length : Int), 0) = _ := num_loop (strBytes w) (strBytes_ok w) (by omega) k 0 0 (by omega) (by omega) (by omega) (by omega)
  rw [List.drop_zero] at L
  by_cases z : w.size = 0
  · rw [decide_eq_true z]
    have : strBytes w = [] := List.eq_nil_of_length_eq_zero (by omega)
    rw [this]
    exact ⟨_, rfl, rfl⟩
  · rw [decide_eq_false z]
    simp only [beq_self_eq_true, cond_true]
    cases hb : strBytes w with
    | nil => rw [hb] at hn; simp at hn; omega
    | cons c l =>
      rw [hb] at L hn
      rw [List.length_cons] at hn
      unfold numS
      have fin : ∃ y, (if w.size ≤ 140737488355328 then Option.bind (J31_0 k k (0, c :: l, ((c :: l).length : Int), 0)) (fun s7 => onSum s7 (fun y8 => some (y8.1, true)) (fun o20 => some o20)) else none) = some y ∧ match numL (c :: l) 0 with | some v => y = (v, true) | none => y.2 = false := by
        rw [if_pos (by omega), L, Option.bind_some]
        cases numL (c :: l) 0 with
        | none => exact ⟨_, rfl, rfl⟩
        | some v => exact ⟨_, rfl, rfl⟩
      by_cases h1 : 1 < w.size
      · have hc : byteAt w 0 = c := by
          have := byteAt_is w 0 (by rw [hb]; simp)
          rw [show ((0 : Nat) : Int) = 0 from rfl] at this
          rw [this]
          simp [hb]
        rw [decide_eq_true (show (w.size : Int) > 1 by omega)]
        simp only [beq_self_eq_true, cond_true]
        rw [if_pos (show 0 ≤ (0 : Int) ∧ (0 : Int) < (w.size : Int) by omega), hc]
        by_cases h2 : c = 48
        · rw [decide_eq_true h2]
          simp only [cond_true]
          rw [if_pos (show c = 48 ∧ 0 < l.length from ⟨h2, by omega⟩)]
          exact ⟨_, rfl, rfl⟩
        · rw [decide_eq_false h2]
          simp only [cond_false]
          rw [if_neg (show ¬ (c = 48 ∧ 0 < l.length) from fun h => h2 h.1)]
          exact fin
      · rw [decide_eq_false (show ¬ (w.size : Int) > 1 by omega)]
        simp only [show (false == true) = false from rfl, cond_false]
        rw [if_neg (show ¬ (c = 48 ∧ 0 < l.length) from fun h => by omega)]
        exact fin
end Go.Proofs.YtdmmcjefpbbceaaDoor.ELineWrites
