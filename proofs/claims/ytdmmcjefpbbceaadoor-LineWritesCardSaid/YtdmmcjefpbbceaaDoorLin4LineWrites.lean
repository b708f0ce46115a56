import Derived.Test.YtdmmcjefpbbceaaDoorLin3LineWrites
namespace Go.Proofs.YtdmmcjefpbbceaaDoor.ELineWrites
open Go Go.Proofs.YtdmmcjefpbbceaaDoor.AE Go.Proofs.YtdmmcjefpbbceaaDoor
set_option linter.unusedVariables false
set_option linter.unusedSimpArgs false
/-! A command's text. -/
noncomputable instance decCmd : DecidableEq Cmd := fun a b => Classical.propDecidable (a = b)
def OkB (l : List Int) : Prop := ∀ x ∈ l, 0 ≤ x ∧ x ≤ 255
def OkC (c : Cmd) : Prop := OkB c.2.2.2.2.2.2.1 ∧ OkB c.2.2.2.2.2.2.2
def dgN (v : Nat) : Int := byteAt DIG (v : Int)
def hexB : List Int → List Int
  | [] => []
  | x :: l => dgN (x.toNat / 16) :: dgN (x.toNat % 16) :: hexB l
theorem hexB_len : ∀ l : List Int, (hexB l).length = 2 * l.length
  | [] => rfl
  | x :: l => by rw [hexB, List.length_cons, List.length_cons, hexB_len l, List.length_cons]; omega
def hexW (b : List Int) : ByteArray := if b.length = 0 then ⟨#[45]⟩ else bytesStr (hexB b)
theorem hex_loop (b : List Int) (hb : OkB b) (hl : b.length ≤ 1048576) : ∀ (m i : Nat) (acc : List Int), b.length - i < m → i ≤ b.length → acc.length = 2 * i →
    iter F37_0 m (b, (b.length : Int), (i : Int), acc) = some (.inl (b, (b.length : Int), (b.length : Int), acc ++ hexB (b.drop i))) := by
  intro m
  induction m with
  | zero => intro i acc h; omega
  | succ m ih =>
    intro i acc hm hi ha
    show F37_0 (iter F37_0 m) _ = _
    unfold F37_0
    simp only
    by_cases h : i < b.length
    · have hd : b.drop i = b[i] :: b.drop (i + 1) := List.drop_eq_getElem_cons h
      have hx := hb b[i] (List.getElem_mem h)
      have ih' := fun acc2 ha2 => ih (i + 1) acc2 (by omega) h ha2
      rw [hd, decide_eq_true (show (i : Int) < (b.length : Int) by omega), cond_true, if_pos (show 0 ≤ (i : Int) ∧ (i : Int) < (b.length : Int) by omega), getD_b b h, succ_b (Nat.le_of_lt h) (show b.length ≤ 1099511627776 by omega)]
      generalize b[i] = x at *
      obtain ⟨n, rfl⟩ : ∃ n : Nat, x = (n : Int) := ⟨x.toNat, by omega⟩
      have t1 : (n : Int).tdiv 16 = ((n / 16 : Nat) : Int) := rfl
      have t2 : (n : Int).tmod 16 = ((n % 16 : Nat) : Int) := rfl
      have w1 : IntKind.wrap .u8 ((n / 16 : Nat) : Int) = ((n / 16 : Nat) : Int) := wu8b (by omega) (by omega)
      have hsz : ((⟨#[48, 49, 50, 51, 52, 53, 54, 55, 56, 57, 97, 98, 99, 100, 101, 102]⟩ : ByteArray).size : Int) = 16 := rfl
      rw [if_neg (show ¬ (16 : Int) = 0 by decide), t1, w1, hsz, if_pos (show 0 ≤ ((n / 16 : Nat) : Int) ∧ ((n / 16 : Nat) : Int) < 16 by omega), if_neg (show ¬ (16 : Int) = 0 by decide), t2, if_pos (show 0 ≤ ((n % 16 : Nat) : Int) ∧ ((n % 16 : Nat) : Int) < 16 by omega)]
      rw [if_pos (by simp only [List.length_cons, List.length_nil]; omega)]
      have e : acc ++ [byteAt DIG ((n / 16 : Nat) : Int), byteAt DIG ((n % 16 : Nat) : Int)] = acc ++ [dgN (n / 16), dgN (n % 16)] := rfl
      refine (ih' (acc ++ [dgN (n / 16), dgN (n % 16)]) (by rw [List.length_append]; simp; omega)).trans ?_
      simp [hexB]
    · obtain rfl : i = b.length := by omega
      rw [decide_eq_false (show ¬ (b.length : Int) < (b.length : Int) by omega), List.drop_length]
      simp [hexB]
theorem hex_is (k : Nat) (b : List Int) (hb : OkB b) (hl : b.length ≤ 1048576) (hk : b.length < k) : R37 (k + 1) b = some (hexW b) := by
  rw [u37]
  unfold r37 hexW
  simp only
  by_cases z : b.length = 0
  · rw [decide_eq_true (show (b.length : Int) = 0 by omega), if_pos z]
    rfl
  · rw [decide_eq_false (show ¬ (b.length : Int) = 0 by omega), if_neg z]
    have e : J37_0 k k (b, (b.length : Int), 0, []) = _ := hex_loop b hb hl k 0 [] (by omega) (by omega) rfl
    rw [e]
    rfl
def modeN (m : Int) : ByteArray := if m = 0 then ⟨#[98, 121, 116, 101, 115]⟩ else if m = 1 then ⟨#[108, 105, 110, 101, 115]⟩ else ⟨#[]⟩
theorem modeN_is (k : Nat) (m : Int) : R33 (k + 1) m = some (modeN m) := by
  rw [u33]
  unfold r33 modeN
  by_cases m0 : m = 0
  · simp only [decide_eq_true m0, cond_true, if_pos m0]
  · by_cases m1 : m = 1
    · simp only [decide_eq_false m0, cond_false, decide_eq_true m1, cond_true, if_neg m0, if_pos m1]
    · simp only [decide_eq_false m0, cond_false, decide_eq_false m1, if_neg m0, if_neg m1]
theorem engN_else {e : Int} (h : e < 1 ∨ e > 8) : engN e = ⟨#[]⟩ := by
  unfold engN
  split <;> first | rfl | omega
theorem engA_is (k : Nat) (e : Int) : R34 (k + 1) e = some (engN e) := by
  by_cases h : 1 ≤ e ∧ e ≤ 8
  · exact engN_is k e h.1 h.2
  · rw [engN_else (by omega), u34]
    unfold r34
    simp only [decide_eq_false (show ¬ e = 1 by omega), decide_eq_false (show ¬ e = 2 by omega), decide_eq_false (show ¬ e = 3 by omega), decide_eq_false (show ¬ e = 4 by omega), decide_eq_false (show ¬ e = 5 by omega), decide_eq_false (show ¬ e = 6 by omega), decide_eq_false (show ¬ e = 7 by omega), decide_eq_false (show ¬ e = 8 by omega), cond_false]
def nameS (n : Int) : ByteArray := if n = 1 then ⟨#[100, 105, 102, 102]⟩ else if n = 2 then ⟨#[115, 116, 101, 112, 115]⟩ else if n = 3 then ⟨#[110, 101, 97, 114]⟩ else if n = 4 then ⟨#[97, 112, 112, 108, 121]⟩ else if n = 5 then ⟨#[117, 110, 100, 111]⟩ else ⟨#[]⟩
theorem name_is (k : Nat) (n : Int) : R19 (k + 1) n = some (nameS n) := by
  rw [u19]
  unfold r19 nameS
  by_cases h1 : n = 1
  · simp only [decide_eq_true h1, cond_true, if_pos h1]
  by_cases h2 : n = 2
  · simp only [decide_eq_false h1, decide_eq_true h2, cond_true, cond_false, if_neg h1, if_pos h2]
  by_cases h3 : n = 3
  · simp only [decide_eq_false h1, decide_eq_false h2, decide_eq_true h3, cond_true, cond_false, if_neg h1, if_neg h2, if_pos h3]
  by_cases h4 : n = 4
  · simp only [decide_eq_false h1, decide_eq_false h2, decide_eq_false h3, decide_eq_true h4, cond_true, cond_false, if_neg h1, if_neg h2, if_neg h3, if_pos h4]
  by_cases h5 : n = 5
  · simp only [decide_eq_false h1, decide_eq_false h2, decide_eq_false h3, decide_eq_false h4, decide_eq_true h5, cond_true, cond_false, if_neg h1, if_neg h2, if_neg h3, if_neg h4, if_pos h5]
  · simp only [decide_eq_false h1, decide_eq_false h2, decide_eq_false h3, decide_eq_false h4, decide_eq_false h5, cond_false, if_neg h1, if_neg h2, if_neg h3, if_neg h4, if_neg h5]
def wordS (c : Cmd) (n : Int) : ByteArray :=
  if n = 0 then modeN c.2.1
  else if n = 1 then (if c.2.2.1 = 0 then ⟨#[97, 110, 121]⟩ else engN c.2.2.1)
  else if n = 2 then LineX.itoaS c.2.2.2.1
  else if n = 3 then LineX.itoaS c.2.2.2.2.2.1
  else if n = 4 then LineX.itoaS c.2.2.2.2.1
  else if n = 5 then hexW c.2.2.2.2.2.2.1
  else hexW c.2.2.2.2.2.2.2
/-- A command as it may come in. -/
structure InC (c : Cmd) : Prop where
  ok : OkC c
  a : c.2.2.2.2.2.2.1.length ≤ 150
  b : c.2.2.2.2.2.2.2.length ≤ 150
  t : -9223372036854775808 ≤ c.2.2.2.1 ∧ c.2.2.2.1 ≤ 9223372036854775807
  k : -9223372036854775808 ≤ c.2.2.2.2.1 ∧ c.2.2.2.2.1 ≤ 9223372036854775807
  w : -9223372036854775808 ≤ c.2.2.2.2.2.1 ∧ c.2.2.2.2.2.1 ≤ 9223372036854775807
theorem itoa_is {n : Int} (h : -9223372036854775808 ≤ n ∧ n ≤ 9223372036854775807) : LineX.itoaW n = some (LineX.itoaS n) := by
  unfold LineX.itoaW
  rw [if_pos]
  simp only [Bool.and_eq_true, decide_eq_true_eq]
  exact h
theorem fmt_is {n : Int} (h : -9223372036854775808 ≤ n ∧ n ≤ 9223372036854775807) : LineX.fmtW (n, 10) = some (LineX.itoaS n) := by
  unfold LineX.fmtW
  rw [if_pos]
  simp only [Bool.and_eq_true, decide_eq_true_eq]
  exact ⟨h.1, h.2, trivial⟩
theorem word_is (k : Nat) (hk : 150 < k) (c : Cmd) (hc : InC c) (n : Int) : R20 (k + 2) c n = some (wordS c n) := by
  rw [u20]
  unfold r20 wordS
  by_cases h0 : n = 0
  · rw [decide_eq_true h0, if_pos h0, modeN_is k]
    rfl
  rw [decide_eq_false h0, if_neg h0]
  by_cases h1 : n = 1
  · rw [decide_eq_true h1, if_pos h1]
    simp only [cond_true, cond_false]
    by_cases z : c.2.2.1 = 0
    · rw [decide_eq_true z, if_pos z]
      rfl
    · rw [decide_eq_false z, if_neg z, engA_is k]
      rfl
  rw [decide_eq_false h1, if_neg h1]
  by_cases h2 : n = 2
  · rw [decide_eq_true h2, if_pos h2]
    have e : R35 (k + 1) c.2.2.2.1 = some (LineX.itoaS c.2.2.2.1) := itoa_is hc.t
    rw [e]
    rfl
  rw [decide_eq_false h2, if_neg h2]
  by_cases h3 : n = 3
  · rw [decide_eq_true h3, if_pos h3]
    have e : R36 (k + 1) c.2.2.2.2.2.1 10 = some (LineX.itoaS c.2.2.2.2.2.1) := fmt_is hc.w
    rw [e]
    rfl
  rw [decide_eq_false h3, if_neg h3]
  by_cases h4 : n = 4
  · rw [decide_eq_true h4, if_pos h4]
    have e : R35 (k + 1) c.2.2.2.2.1 = some (LineX.itoaS c.2.2.2.2.1) := itoa_is hc.k
    rw [e]
    rfl
  rw [decide_eq_false h4, if_neg h4]
  have ha := hc.a
  have hb := hc.b
  by_cases h5 : n = 5
  · rw [decide_eq_true h5, if_pos h5, hex_is k _ hc.ok.1 (by omega) (by omega)]
    rfl
  · rw [decide_eq_false h5, if_neg h5, hex_is k _ hc.ok.2 (by omega) (by omega)]
    rfl
def wordsS (c : Cmd) : List ByteArray := nameS c.1 :: (formS c.1).map (wordS c)
noncomputable def textS (c : Cmd) : ByteArray × Int := if (parseS (LineX.joinS (wordsS c))).2.2 = 0 ∧ (parseS (LineX.joinS (wordsS c))).1 = c then (LineX.joinS (wordsS c), 0) else (⟨#[]⟩, 1)
theorem text_loop (k : Nat) (hk : 150 < k) (c : Cmd) (hc : InC c) (form : List Int) (hf : form.length ≤ 6) : ∀ (m i : Nat) (acc : List ByteArray), form.length - i < m → i ≤ form.length → acc.length ≤ i + 1 →
    iter (F9_0 (R8 (k + 2)) (R17 (k + 2)) (R19 (k + 2)) (R20 (k + 2)) (R21 (k + 2)) (R22 (k + 2))) m (form, (form.length : Int), (i : Int), c, acc) = some (.inl (form, (form.length : Int), (form.length : Int), c, acc ++ (form.drop i).map (wordS c))) := by
  intro m
  induction m with
  | zero => intro i acc h; omega
  | succ m ih =>
    intro i acc hm hi ha
    show F9_0 _ _ _ _ _ _ (iter (F9_0 _ _ _ _ _ _) m) _ = _
    unfold F9_0
    simp only
    by_cases h : i < form.length
    · have hd : form.drop i = form[i] :: form.drop (i + 1) := List.drop_eq_getElem_cons h
      rw [hd, decide_eq_true (show (i : Int) < (form.length : Int) by omega), cond_true, if_pos (show 0 ≤ (i : Int) ∧ (i : Int) < (form.length : Int) by omega), getD_b form h, word_is k hk c hc, Option.bind_some, if_pos (by simp only [List.length_cons, List.length_nil]; omega), succ_b (Nat.le_of_lt h) (by omega)]
      refine (ih (i + 1) (acc ++ [wordS c form[i]]) (by omega) h (by rw [List.length_append]; simp; omega)).trans ?_
      simp only [List.map_cons, List.append_assoc, List.cons_append, List.nil_append]
    · obtain rfl : i = form.length := by omega
      rw [decide_eq_false (show ¬ (form.length : Int) < (form.length : Int) by omega), List.drop_length]
      simp
theorem digU_len : ∀ (f u : Nat), (LineX.digU f u).length ≤ f
  | 0, u => by simp [LineX.digU]
  | f + 1, u => by
    unfold LineX.digU
    split
    · simp
    · have := digU_len f (u / 10)
      simp
      omega
theorem itoaS_size (n : Int) : (LineX.itoaS n).size ≤ 21 := by
  unfold LineX.itoaS LineX.itoaL
  show (if n < 0 then 45 :: LineX.digU 20 n.natAbs else LineX.digU 20 n.toNat).toArray.size ≤ 21
  have h1 := digU_len 20 n.natAbs
  have h2 := digU_len 20 n.toNat
  split
  · simp; omega
  · simp; omega
theorem engN_size (e : Int) : (engN e).size ≤ 5 := by
  unfold engN
  split <;> decide
theorem hexW_size (b : List Int) (h : b.length ≤ 150) : (hexW b).size ≤ 301 := by
  unfold hexW
  split
  · decide
  · have : (bytesStr (hexB b)).size = (hexB b).length := by
      unfold bytesStr
      show ((hexB b).map _).toArray.size = _
      simp
    rw [this, hexB_len]
    omega
theorem wordS_size (c : Cmd) (hc : InC c) (n : Int) : (wordS c n).size ≤ 301 := by
  unfold wordS modeN
  split
  · split
    · decide
    · split <;> decide
  · split
    · split
      · decide
      · have := engN_size c.2.2.1; omega
    · split
      · have := itoaS_size c.2.2.2.1; omega
      · split
        · have := itoaS_size c.2.2.2.2.2.1; omega
        · split
          · have := itoaS_size c.2.2.2.2.1; omega
          · split
            · exact hexW_size _ hc.a
            · exact hexW_size _ hc.b
theorem nameS_size (n : Int) : (nameS n).size ≤ 5 := by
  unfold nameS
  split
  · decide
  · split
    · decide
    · split
      · decide
      · split
        · decide
        · split <;> decide
theorem joinL_len : ∀ (l : List (List UInt8)), l ≠ [] → (LineX.joinL l).length + 1 = (l.map fun x => x.length + 1).sum
  | [], h => absurd rfl h
  | [x], _ => by simp [LineX.joinL]
  | x :: y :: r, _ => by
    have ih := joinL_len (y :: r) (by simp)
    rw [LineX.joinL, List.map_cons, List.sum_cons, ← ih, List.length_append, List.length_cons]
    omega
theorem sum_le {α : Type} (f : α → Nat) (B : Nat) : ∀ l : List α, (∀ x ∈ l, f x ≤ B) → (l.map f).sum ≤ l.length * B
  | [], _ => by simp
  | x :: l, h => by
    have := sum_le f B l fun y hy => h y (by simp [hy])
    have hx := h x (by simp)
    rw [List.map_cons, List.sum_cons, List.length_cons, Nat.add_mul, Nat.one_mul]
    omega
theorem joinS_tot (l : List ByteArray) (h : l ≠ []) : (LineX.joinS l).size + 1 = tot l := by
  have hh := joinL_len (l.map fun s => s.data.toList) (by simpa using h)
  unfold LineX.joinS tot
  show (LineX.joinL (l.map fun s => s.data.toList)).toArray.size + 1 = _
  rw [List.size_toArray, hh, List.map_map]
  rfl
theorem words_tot (c : Cmd) (hc : InC c) : tot (wordsS c) ≤ 2114 := by
  have hf := formS_len c.1
  have h := sum_le (fun w : ByteArray => w.size + 1) 302 (wordsS c) (fun x hx => by
    unfold wordsS at hx
    rcases List.mem_cons.1 hx with rfl | hx
    · have := nameS_size c.1
      show (nameS c.1).size + 1 ≤ 302
      omega
    · obtain ⟨n, _, rfl⟩ := List.mem_map.1 hx
      have := wordS_size c hc n
      show (wordS c n).size + 1 ≤ 302
      omega)
  have hl : (wordsS c).length ≤ 7 := by unfold wordsS; rw [List.length_cons, List.length_map]; omega
  unfold tot
  have : (wordsS c).length * 302 ≤ 7 * 302 := Nat.mul_le_mul_right _ hl
  omega
theorem strEq_bytes {x y : List Int} (hx : OkB x) (hy : OkB y) : strEq (bytesStr x) (bytesStr y) = decide (x = y) := by
  have back : ∀ (x : List Int), OkB x → (x.map fun n => UInt8.ofNat n.toNat).map (fun b => (b.toNat : Int)) = x := by
    intro x hx
    rw [List.map_map]
    conv => rhs; rw [← List.map_id x]
    apply List.map_congr_left
    intro a ha
    have := hx a ha
    simp
    omega
  unfold strEq bytesStr
  rw [Bool.eq_iff_iff]
  simp only [beq_iff_eq, decide_eq_true_eq]
  constructor
  · intro h
    have h2 : (x.map fun n => UInt8.ofNat n.toNat) = (y.map fun n => UInt8.ofNat n.toNat) := by simpa using h
    rw [← back x hx, ← back y hy, h2]
  · rintro rfl; rfl
theorem lsame_is (k : Nat) (x c : Cmd) (hx : OkC x) (hc : OkC c) : R22 (k + 1) x c = some (decide (x = c)) := by
  obtain ⟨x1, x2, x3, x4, x5, x6, x7, x8⟩ := x
  obtain ⟨c1, c2, c3, c4, c5, c6, c7, c8⟩ := c
  rw [u22]
  unfold r22
  simp only [strEq_bytes hx.1 hc.1, strEq_bytes hx.2 hc.2]
  by_cases e1 : x1 = c1
  · by_cases e2 : x2 = c2
    · by_cases e3 : x3 = c3
      · by_cases e4 : x4 = c4
        · by_cases e5 : x5 = c5
          · by_cases e6 : x6 = c6
            · by_cases e7 : x7 = c7
              · by_cases e8 : x8 = c8
                · subst e1 e2 e3 e4 e5 e6 e7 e8; simp
                · simp [e1, e2, e3, e4, e5, e6, e7, e8]
              · simp [e1, e2, e3, e4, e5, e6, e7]
            · simp [e1, e2, e3, e4, e5, e6]
          · simp [e1, e2, e3, e4, e5]
        · simp [e1, e2, e3, e4]
      · simp [e1, e2, e3]
    · simp [e1, e2]
  · simp [e1]
theorem hexL_ok : ∀ (l acc b : List Int), OkB acc → hexL l acc = some b → OkB b
  | [], acc, b, ha, h => by unfold hexL at h; cases h; exact ha
  | [x], acc, b, ha, h => by unfold hexL at h; cases h; exact ha
  | x :: y :: l, acc, b, ha, h => by
    unfold hexL at h
    split at h
    · cases h
    · have h1 := hexS_le x
      have h2 := hexS_le y
      refine hexL_ok l _ b (fun z hz => ?_) h
      rcases List.mem_append.1 hz with hz | hz
      · exact ha z hz
      · simp at hz
        omega
theorem hexL_len : ∀ (l acc b : List Int), hexL l acc = some b → 2 * b.length ≤ 2 * acc.length + l.length
  | [], acc, b, h => by unfold hexL at h; cases h; omega
  | [x], acc, b, h => by unfold hexL at h; cases h; omega
  | x :: y :: l, acc, b, h => by
    unfold hexL at h
    split at h
    · cases h
    · have := hexL_len l _ b h
      rw [List.length_append] at this
      simp at this ⊢
      omega
theorem bytS_ok {w : ByteArray} {b : List Int} (h : bytS w = some b) : OkB b ∧ 2 * b.length ≤ w.size := by
  unfold bytS at h
  cases hq : strEq w ⟨#[45]⟩ with
  | true => rw [hq] at h; cases h; exact ⟨fun x hx => by simp at hx, by simp⟩
  | false =>
    rw [hq, cond_false] at h
    split at h
    · cases h
    · refine ⟨hexL_ok _ [] b (fun x hx => by cases hx) h, ?_⟩
      have := hexL_len _ [] b h
      rw [strBytes_n] at this
      simpa using this
theorem numL_le : ∀ (l : List Int) (n v : Int), n ≤ 999999999 → numL l n = some v → v ≤ 999999999
  | [], n, v, h0, h => by unfold numL at h; cases h; exact h0
  | c :: l, n, v, h0, h => by
    unfold numL at h
    split at h
    · rename_i hc; exact numL_le l _ v hc.2.2 h
    · cases h
theorem numS_le {b : List Int} {v : Int} (h : numS b = some v) : 0 ≤ v ∧ v ≤ 999999999 := by
  refine ⟨numS_nn h, ?_⟩
  unfold numS at h
  split at h
  · cases h
  · split at h
    · cases h
    · exact numL_le _ 0 v (by omega) h
/-- What is taken is such as may come in. -/
theorem take_in {n : Int} {w : ByteArray} {c c' : Cmd} (hw : w.size ≤ 300) (hc : InC c) (h : takeS n w c = some c') : InC c' ∧ c'.1 = c.1 := by
  have num : ∀ v, numS (strBytes w) = some v → -9223372036854775808 ≤ v ∧ v ≤ 9223372036854775807 := fun v hv => by have := numS_le hv; omega
  obtain ⟨ok, ha, hb, ht, hk, hww⟩ := hc
  unfold takeS at h
  split at h
  · obtain ⟨m, _, rfl⟩ := Option.map_eq_some_iff.1 h
    exact ⟨⟨ok, ha, hb, ht, hk, hww⟩, rfl⟩
  · split at h
    · obtain ⟨m, _, rfl⟩ := Option.map_eq_some_iff.1 h
      exact ⟨⟨ok, ha, hb, ht, hk, hww⟩, rfl⟩
    · split at h
      · obtain ⟨m, hm, rfl⟩ := Option.map_eq_some_iff.1 h
        exact ⟨⟨ok, ha, hb, num m hm, hk, hww⟩, rfl⟩
      · split at h
        · obtain ⟨m, hm, rfl⟩ := Option.map_eq_some_iff.1 h
          exact ⟨⟨ok, ha, hb, ht, hk, num m hm⟩, rfl⟩
        · split at h
          · obtain ⟨m, hm, rfl⟩ := Option.map_eq_some_iff.1 h
            exact ⟨⟨ok, ha, hb, ht, num m hm, hww⟩, rfl⟩
          · split at h
            · obtain ⟨m, hm, rfl⟩ := Option.map_eq_some_iff.1 h
              have := bytS_ok hm
              exact ⟨⟨⟨this.1, ok.2⟩, (by have := this.2; show m.length ≤ 150; omega), hb, ht, hk, hww⟩, rfl⟩
            · obtain ⟨m, hm, rfl⟩ := Option.map_eq_some_iff.1 h
              have := bytS_ok hm
              exact ⟨⟨⟨ok.1, this.1⟩, ha, (by have := this.2; show m.length ≤ 150; omega), ht, hk, hww⟩, rfl⟩
theorem take_ok {n : Int} {w : ByteArray} {c c' : Cmd} (hc : OkC c) (h : takeS n w c = some c') : OkC c' := by
  unfold takeS at h
  split at h
  · obtain ⟨m, _, rfl⟩ := Option.map_eq_some_iff.1 h; exact hc
  · split at h
    · obtain ⟨m, _, rfl⟩ := Option.map_eq_some_iff.1 h; exact hc
    · split at h
      · obtain ⟨m, hm, rfl⟩ := Option.map_eq_some_iff.1 h; exact hc
      · split at h
        · obtain ⟨m, hm, rfl⟩ := Option.map_eq_some_iff.1 h; exact hc
        · split at h
          · obtain ⟨m, hm, rfl⟩ := Option.map_eq_some_iff.1 h; exact hc
          · split at h
            · obtain ⟨m, hm, rfl⟩ := Option.map_eq_some_iff.1 h; exact ⟨(bytS_ok hm).1, hc.2⟩
            · obtain ⟨m, hm, rfl⟩ := Option.map_eq_some_iff.1 h; exact ⟨hc.1, (bytS_ok hm).1⟩
theorem loop_ok : ∀ (ws : List ByteArray) (want : List Int) (at' : Nat) (c d : Cmd), OkC c → loopS ws want at' c = .inl d → OkC d
  | [], want, at', c, d, hc, h => by unfold loopS at h; cases h; exact hc
  | w :: ws, [], at', c, d, hc, h => by unfold loopS at h; cases h
  | w :: ws, n :: want, at', c, d, hc, h => by
    unfold loopS at h
    split at h
    · cases h
    · rename_i c' hx
      exact loop_ok ws want _ c' d (take_ok hc hx) h
theorem nil_ok : ∀ n : Int, OkC (n, 0, 0, 0, 0, 0, [], []) := fun n => ⟨fun x hx => (by cases hx), fun x hx => (by cases hx)⟩
theorem parse_ok (s : ByteArray) : OkC (parseS s).1 := by
  unfold parseS
  split
  · exact nil_ok 0
  · rename_i w ws hw
    split
    · exact nil_ok 0
    · split
      · exact nil_ok 0
      · rename_i c hl
        split
        · exact nil_ok 0
        · exact loop_ok _ _ _ _ _ (nil_ok _) hl
/-- TEXT. -/
theorem Text_is (k : Nat) (c : Cmd) (hc : InC c) : R9 (k + 2201) c = some (textS c) := by
  rw [u9]
  unfold r9
  rw [name_is (k + 2199) c.1, Option.bind_some, form_is (k + 2199) c.1, Option.bind_some]
  have L : J9_0 (k + 2200) (k + 2200) (formS c.1, ((formS c.1).length : Int), 0, c, [nameS c.1]) = _ := text_loop (k + 2198) (by omega) c hc (formS c.1) (formS_len c.1).2 (k + 2200) 0 [nameS c.1] (by have := (formS_len c.1).2; omega) (by omega) (by simp)
  rw [List.drop_zero] at L
  simp only
  rw [L, Option.bind_some]
  simp only [onSum]
  have hw : [nameS c.1] ++ (formS c.1).map (wordS c) = wordsS c := rfl
  have ht := words_tot c hc
  have hj := joinS_tot (wordsS c) (by unfold wordsS; simp)
  rw [hw]
  have ej : R21 (k + 2200) (wordsS c) ⟨#[32]⟩ = some (LineX.joinS (wordsS c)) := by
    show LineX.joinW (wordsS c, ⟨#[32]⟩) = _
    unfold LineX.joinW
    rw [if_pos]
    simp only [Bool.and_eq_true, decide_eq_true_eq]
    have hl := tot_len (wordsS c)
    refine ⟨rfl, by omega, ?_⟩
    have : (LineX.joinS (wordsS c)).size = (LineX.joinL ((wordsS c).map fun s => s.data.toList)).length := by
      unfold LineX.joinS
      show (LineX.joinL ((wordsS c).map fun s => s.data.toList)).toArray.size = _
      simp
    omega
  rw [ej, Option.bind_some, Parse_is (k + 2187) _ (by omega) (by omega), Option.bind_some]
  unfold textS
  have hok := parse_ok (LineX.joinS (wordsS c))
  generalize parseS (LineX.joinS (wordsS c)) = p at *
  by_cases z : p.2.2 = 0
  · rw [decide_eq_true z]
    simp only [Bool.not_true, beq_self_eq_true, cond_true]
    rw [lsame_is (k + 2199) p.1 c hok hc.ok, Option.bind_some]
    by_cases e : p.1 = c
    · rw [decide_eq_true e, if_pos ⟨z, e⟩]
      rfl
    · rw [decide_eq_false e, if_neg (fun h => e h.2)]
      rfl
  · rw [decide_eq_false z, if_neg (fun h => z h.1)]
    rfl
end Go.Proofs.YtdmmcjefpbbceaaDoor.ELineWrites
