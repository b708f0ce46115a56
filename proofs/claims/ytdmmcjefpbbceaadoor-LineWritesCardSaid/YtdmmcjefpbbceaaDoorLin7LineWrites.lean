import Derived.Test.YtdmmcjefpbbceaaDoorLin6LineWrites
namespace Go.Proofs.YtdmmcjefpbbceaaDoor.ELineWrites
open Go Go.Proofs.YtdmmcjefpbbceaaDoor.AE Go.Proofs.YtdmmcjefpbbceaaDoor
set_option linter.unusedVariables false
set_option linter.unusedSimpArgs false
/-! The reference's text. -/
theorem ba_app (a b : List UInt8) : (⟨a.toArray⟩ : ByteArray) ++ ⟨b.toArray⟩ = ⟨(a ++ b).toArray⟩ := by
  apply ByteArray.ext
  simp [ByteArray.data_append]
theorem Digits_is (k : Nat) : ∀ (d n : Nat), n < 10 ^ (d + 1) → d ≤ 19 → n ≤ 9223372036854775807 → R60 (k + 1 + d) (n : Int) = some ⟨(LineX.digU (d + 1) n).toArray⟩ := by
  have one : ∀ (x : Nat), x < 10 → bytesStr [IntKind.wrap .u8 (IntKind.wrap .i64 (48 + (x : Int)))] = ⟨[UInt8.ofNat (48 + x)].toArray⟩ := by
    intro x hx
    rw [w64 (by omega) (by omega), wu8b (by omega) (by omega)]
    unfold bytesStr
    have : ((48 : Int) + (x : Int)).toNat = 48 + x := by omega
    simp [this]
  intro d
  induction d with
  | zero =>
    intro n h hd hn
    rw [Nat.add_zero, u60]
    unfold r60
    have h10 : n < 10 := by simpa using h
    simp only [decide_eq_true (show (n : Int) < 10 by omega), cond_true, one n h10]
    rw [LineX.digU, if_pos h10]
  | succ d ih =>
    intro n h hd hn
    rw [← Nat.add_assoc, u60]
    unfold r60
    by_cases h10 : n < 10
    · simp only [decide_eq_true (show (n : Int) < 10 by omega), cond_true, one n h10]
      rw [LineX.digU, if_pos h10]
    · have e1 := ih (n / 10) (by rw [Nat.pow_succ] at h; omega) (by omega) (by omega)
      have t1 : (n : Int).tdiv 10 = ((n / 10 : Nat) : Int) := rfl
      have t2 : (n : Int).tmod 10 = ((n % 10 : Nat) : Int) := rfl
      have w1 : IntKind.wrap .i64 (((n / 10 : Nat) : Int)) = ((n / 10 : Nat) : Int) := w64 (by omega) (by omega)
      have hl := digU_len (d + 1) (n / 10)
      have z1 : (⟨(LineX.digU (d + 1) (n / 10)).toArray⟩ : ByteArray).size ≤ 20 := by
        show (LineX.digU (d + 1) (n / 10)).toArray.size ≤ 20
        rw [List.size_toArray]; omega
      have z2 : (⟨[UInt8.ofNat (48 + n % 10)].toArray⟩ : ByteArray).size = 1 := rfl
      simp only [decide_eq_false (show ¬ (n : Int) < 10 by omega), cond_false, if_neg (show ¬ (10 : Int) = 0 by decide), t1, w1, e1, Option.bind_some, t2, one (n % 10) (by omega)]
      rw [if_pos (by rw [z2]; omega), ba_app, LineX.digU.eq_def (d + 1 + 1)]
      simp only [if_neg h10]
def itoaR (v : Int) : ByteArray := if v < 0 then ⟨#[]⟩ else LineX.itoaS v
theorem digitsOf_is (k : Nat) (v : Int) (hv : v ≤ 9223372036854775807) : R47 (k + 21) v = some (itoaR v) := by
  rw [u47]
  unfold r47 itoaR
  by_cases h : v < 0
  · rw [decide_eq_true h, if_pos h]
    rfl
  · rw [decide_eq_false h, if_neg h]
    obtain ⟨n, rfl⟩ : ∃ n : Nat, v = (n : Int) := ⟨v.toNat, by omega⟩
    have e := Digits_is k 19 n (by simp; omega) (by omega) (by omega)
    have e' : R60 (k + 20) (n : Int) = _ := e
    rw [e']
    unfold LineX.itoaS LineX.itoaL
    rw [if_neg h]
    rfl
theorem rhex_loop (b : List Int) (hb : OkB b) (hl : b.length ≤ 1048576) : ∀ (m i : Nat) (acc : List Int), b.length - i < m → i ≤ b.length → acc.length = 2 * i →
    iter F48_0 m (b, (i : Int), acc) = some (.inl (b, (b.length : Int), acc ++ hexB (b.drop i))) := by
  intro m
  induction m with
  | zero => intro i acc h; omega
  | succ m ih =>
    intro i acc hm hi ha
    show F48_0 (iter F48_0 m) _ = _
    unfold F48_0
    simp only
    by_cases h : i < b.length
    · have hd : b.drop i = b[i] :: b.drop (i + 1) := List.drop_eq_getElem_cons h
      have hx := hb b[i] (List.getElem_mem h)
      have ih' := fun acc2 ha2 => ih (i + 1) acc2 (by omega) h ha2
      have h2 : 0 ≤ (i : Int) ∧ (i : Int) < (b.length : Int) := by omega
      rw [hd, decide_eq_true (show (i : Int) < (b.length : Int) by omega), cond_true, if_pos h2, getD_b b h, succ_b (Nat.le_of_lt h) (show b.length ≤ 1099511627776 by omega)]
      generalize b[i] = x at *
      obtain ⟨n, rfl⟩ : ∃ n : Nat, x = (n : Int) := ⟨x.toNat, by omega⟩
      have t1 : (n : Int).tdiv 16 = ((n / 16 : Nat) : Int) := rfl
      have t2 : (n : Int).tmod 16 = ((n % 16 : Nat) : Int) := rfl
      have w1 : IntKind.wrap .u8 ((n / 16 : Nat) : Int) = ((n / 16 : Nat) : Int) := wu8b (by omega) (by omega)
      have hsz : ((⟨#[48, 49, 50, 51, 52, 53, 54, 55, 56, 57, 97, 98, 99, 100, 101, 102]⟩ : ByteArray).size : Int) = 16 := rfl
      rw [if_neg (show ¬ (16 : Int) = 0 by decide), t1, w1, hsz, if_pos (show 0 ≤ ((n / 16 : Nat) : Int) ∧ ((n / 16 : Nat) : Int) < 16 by omega), if_pos h2, if_neg (show ¬ (16 : Int) = 0 by decide), t2, if_pos (show 0 ≤ ((n % 16 : Nat) : Int) ∧ ((n % 16 : Nat) : Int) < 16 by omega)]
      rw [if_pos (by simp only [List.length_cons, List.length_nil]; omega)]
      refine (ih' (acc ++ [dgN (n / 16), dgN (n % 16)]) (by rw [List.length_append]; simp; omega)).trans ?_
      simp [hexB]
    · obtain rfl : i = b.length := by omega
      rw [decide_eq_false (show ¬ (b.length : Int) < (b.length : Int) by omega), List.drop_length]
      simp [hexB]
theorem rhex_is (k : Nat) (b : List Int) (hb : OkB b) (hl : b.length ≤ 1048576) (hk : b.length < k) : R48 (k + 1) b = some (hexW b) := by
  rw [u48]
  unfold r48 hexW
  simp only
  by_cases z : b.length = 0
  · rw [decide_eq_true (show (b.length : Int) = 0 by omega), if_pos z]
    rfl
  · rw [decide_eq_false (show ¬ (b.length : Int) = 0 by omega), if_neg z]
    have e : J48_0 k k (b, 0, []) = _ := rhex_loop b hb hl k 0 [] (by omega) (by omega) rfl
    rw [e]
    rfl
theorem rmodeN_is (k : Nat) (m : Int) : R45 (k + 1) m = some (modeN m) := by
  rw [u45]
  unfold r45 modeN
  by_cases m0 : m = 0
  · simp only [decide_eq_true m0, cond_true, if_pos m0]
  · by_cases m1 : m = 1
    · simp only [decide_eq_false m0, cond_false, decide_eq_true m1, cond_true, if_neg m0, if_pos m1]
    · simp only [decide_eq_false m0, cond_false, decide_eq_false m1, if_neg m0, if_neg m1]
theorem rengA_is (k : Nat) (e : Int) : R46 (k + 1) e = some (engN e) := by
  by_cases h : 1 ≤ e ∧ e ≤ 8
  · exact rengN_is k e h.1 h.2
  · rw [engN_else (by omega), u46]
    unfold r46
    simp only [List.length_cons, List.length_nil]
    by_cases h1 : e < 1
    · rw [decide_eq_true h1]
      rfl
    · rw [decide_eq_false h1]
      simp only [beq_self_eq_true, cond_true]
      rw [decide_eq_true (show e > ((0 + 1 + 1 + 1 + 1 + 1 + 1 + 1 + 1 : Nat) : Int) by omega)]
      rfl
def wordR (c : Cmd) (n : Int) : ByteArray :=
  if n = 0 then modeN c.2.1
  else if n = 1 then (if c.2.2.1 = 0 then ⟨#[97, 110, 121]⟩ else engN c.2.2.1)
  else if n = 2 then itoaR c.2.2.2.1
  else if n = 3 then itoaR c.2.2.2.2.2.1
  else if n = 4 then itoaR c.2.2.2.2.1
  else if n = 5 then hexW c.2.2.2.2.2.2.1
  else hexW c.2.2.2.2.2.2.2
theorem said_is (k : Nat) (hk : 150 < k) (c : Cmd) (hc : InC c) (n : Int) (hn0 : 0 ≤ n) (hn : n ≤ 6) : R27 (k + 22) c (chr n) = some (wordR c n) := by
  rw [u27]
  unfold r27 wordR
  have ha := hc.a
  have hb := hc.b
  have cs : n = 0 ∨ n = 1 ∨ n = 2 ∨ n = 3 ∨ n = 4 ∨ n = 5 ∨ n = 6 := by omega
  rcases cs with rfl | rfl | rfl | rfl | rfl | rfl | rfl
  · have e0 : chr 0 = 109 := rfl
    rw [e0, if_pos rfl, rmodeN_is (k + 20)]
    rfl
  · have e0 : chr 1 = 101 := rfl
    rw [e0, if_neg (by decide), if_pos rfl]
    simp only [show decide ((101 : Int) = 109) = false from rfl, decide_true, cond_true, cond_false]
    by_cases z : c.2.2.1 = 0
    · rw [decide_eq_true z, if_pos z]
      rfl
    · rw [decide_eq_false z, if_neg z, rengA_is (k + 20)]
      rfl
  · have e0 : chr 2 = 116 := rfl
    rw [e0, if_neg (by decide), if_neg (by decide), if_pos rfl]
    simp only [show decide ((116 : Int) = 109) = false from rfl, show decide ((116 : Int) = 101) = false from rfl, decide_true, cond_true, cond_false]
    rw [digitsOf_is k _ hc.t.2]
    rfl
  · have e0 : chr 3 = 119 := rfl
    rw [e0, if_neg (by decide), if_neg (by decide), if_neg (by decide), if_pos rfl]
    simp only [show decide ((119 : Int) = 109) = false from rfl, show decide ((119 : Int) = 101) = false from rfl, show decide ((119 : Int) = 116) = false from rfl, decide_true, cond_true, cond_false]
    rw [digitsOf_is k _ hc.w.2]
    rfl
  · have e0 : chr 4 = 107 := rfl
    rw [e0, if_neg (by decide), if_neg (by decide), if_neg (by decide), if_neg (by decide), if_pos rfl]
    simp only [show decide ((107 : Int) = 109) = false from rfl, show decide ((107 : Int) = 101) = false from rfl, show decide ((107 : Int) = 116) = false from rfl, show decide ((107 : Int) = 119) = false from rfl, decide_true, cond_true, cond_false]
    rw [digitsOf_is k _ hc.k.2]
    rfl
  · have e0 : chr 5 = 97 := rfl
    rw [e0, if_neg (by decide), if_neg (by decide), if_neg (by decide), if_neg (by decide), if_neg (by decide), if_pos rfl]
    simp only [show decide ((97 : Int) = 109) = false from rfl, show decide ((97 : Int) = 101) = false from rfl, show decide ((97 : Int) = 116) = false from rfl, show decide ((97 : Int) = 119) = false from rfl, show decide ((97 : Int) = 107) = false from rfl, decide_true, cond_true, cond_false]
    rw [rhex_is (k + 20) _ hc.ok.1 (by omega) (by omega)]
    rfl
  · have e0 : chr 6 = 98 := rfl
    rw [e0, if_neg (by decide), if_neg (by decide), if_neg (by decide), if_neg (by decide), if_neg (by decide), if_neg (by decide)]
    simp only [show decide ((98 : Int) = 109) = false from rfl, show decide ((98 : Int) = 101) = false from rfl, show decide ((98 : Int) = 116) = false from rfl, show decide ((98 : Int) = 119) = false from rfl, show decide ((98 : Int) = 107) = false from rfl, show decide ((98 : Int) = 97) = false from rfl, cond_false]
    rw [rhex_is (k + 20) _ hc.ok.2 (by omega) (by omega)]
    rfl
def catS (s : ByteArray) (l : List ByteArray) : ByteArray := l.foldl (fun a w => a ++ ⟨#[32]⟩ ++ w) s
theorem catS_join : ∀ (l : List ByteArray) (s : ByteArray), catS s l = LineX.joinS (s :: l)
  | [], s => by
    unfold catS LineX.joinS
    simp [LineX.joinL]
  | w :: l, s => by
    show catS (s ++ ⟨#[32]⟩ ++ w) l = _
    rw [catS_join l]
    unfold LineX.joinS
    have e : (s ++ ⟨#[32]⟩ ++ w).data.toList = s.data.toList ++ 32 :: w.data.toList := by simp [ByteArray.data_append]
    rw [List.map_cons, e, List.map_cons, List.map_cons]
    cases l with
    | nil => rfl
    | cons y r =>
      rw [List.map_cons]
      show (⟨(LineX.joinL ((s.data.toList ++ 32 :: w.data.toList) :: y.data.toList :: r.map fun s => s.data.toList)).toArray⟩ : ByteArray) = ⟨(LineX.joinL (s.data.toList :: w.data.toList :: y.data.toList :: r.map fun s => s.data.toList)).toArray⟩
      simp only [LineX.joinL]
      simp
theorem rtext_loop (k : Nat) (hk : 150 < k) (c : Cmd) (hc : InC c) (f : ByteArray) (want : List Int) (hf : f.size = want.length) (hfb : ∀ j (h : j < want.length), byteAt f (j : Int) = chr want[j]) (hmem : ∀ x ∈ want, 0 ≤ x ∧ x ≤ 6) (hl : want.length ≤ 6) : ∀ (m i : Nat) (s : ByteArray), want.length - i < m → i ≤ want.length → s.size + tot ((want.drop i).map (wordR c)) ≤ 1073741824 →
    iter (F14_0 (R12 (k + 22)) (R13 (k + 22)) (R25 (k + 22)) (R27 (k + 22))) m (s, f, (i : Int), c) = some (.inl (catS s ((want.drop i).map (wordR c)), f, (want.length : Int), c)) := by
  intro m
  induction m with
  | zero => intro i s h; omega
  | succ m ih =>
    intro i s hm hi hs
    show F14_0 _ _ _ _ (iter (F14_0 _ _ _ _) m) _ = _
    unfold F14_0
    simp only
    have z1 : (⟨#[32]⟩ : ByteArray).size = 1 := rfl
    by_cases h : i < want.length
    · have hd : want.drop i = want[i] :: want.drop (i + 1) := List.drop_eq_getElem_cons h
      have hm6 := hmem want[i] (List.getElem_mem h)
      rw [hd, List.map_cons, tot_cons] at hs
      rw [hd, decide_eq_true (show (i : Int) < (f.size : Int) by omega), cond_true, if_pos (by rw [z1]; omega), if_pos (show 0 ≤ (i : Int) ∧ (i : Int) < (f.size : Int) by omega), hfb i h, said_is k hk c hc want[i] hm6.1 hm6.2, Option.bind_some]
      rw [if_pos (by rw [ByteArray.size_append, z1]; omega), succ_b (Nat.le_of_lt h) (show want.length ≤ 1099511627776 by omega)]
      exact ih (i + 1) (s ++ ⟨#[32]⟩ ++ wordR c want[i]) (by omega) h (by rw [ByteArray.size_append, ByteArray.size_append, z1]; omega)
    · obtain rfl : i = want.length := by omega
      rw [decide_eq_false (show ¬ (want.length : Int) < (f.size : Int) by omega), List.drop_length]
      rfl
theorem rsame_is (k : Nat) (x c : Cmd) (hx : OkC x) (hc : OkC c) : R13 (k + 1) x c = some (decide (x = c)) := by
  obtain ⟨x1, x2, x3, x4, x5, x6, x7, x8⟩ := x
  obtain ⟨c1, c2, c3, c4, c5, c6, c7, c8⟩ := c
  rw [u13]
  unfold r13
  simp only [strEq_bytes hx.1 hc.1, strEq_bytes hx.2 hc.2]
  by_cases e1 : x1 = c1
  · by_cases e2 : x2 = c2
    · by_cases e3 : x3 = c3
      · by_cases e4 : x4 = c4
        · by_cases e5 : x5 = c5
          · by_cases e6 : x6 = c6
            · by_cases e7 : x7 = c7
              · by_cases e8 : x8 = c8
                · subst e1 e2 e3 e4 e5 e6 e7 e8; simp
                · simp [e1, e2, e3, e4, e5, e6, e7, e8]
              · simp [e1, e2, e3, e4, e5, e6, e7]
            · simp [e1, e2, e3, e4, e5, e6]
          · simp [e1, e2, e3, e4, e5]
        · simp [e1, e2, e3, e4]
      · simp [e1, e2, e3]
    · simp [e1, e2]
  · simp [e1]
def wordsR (c : Cmd) : List ByteArray := nameS c.1 :: (formS c.1).map (wordR c)
noncomputable def textR (c : Cmd) : ByteArray × Int := if 1 ≤ c.1 ∧ c.1 ≤ 5 then (if (parseS (LineX.joinS (wordsR c))).2.2 = 0 ∧ (parseS (LineX.joinS (wordsR c))).1 = c then (LineX.joinS (wordsR c), 0) else (⟨#[]⟩, 1)) else (⟨#[]⟩, 1)
theorem itoaR_size (v : Int) : (itoaR v).size ≤ 21 := by
  unfold itoaR
  split
  · decide
  · exact itoaS_size v
theorem wordR_size (c : Cmd) (hc : InC c) (n : Int) : (wordR c n).size ≤ 301 := by
  unfold wordR modeN
  split
  · split
    · decide
    · split <;> decide
  · split
    · split
      · decide
      · have := engN_size c.2.2.1; omega
    · split
      · have := itoaR_size c.2.2.2.1; omega
      · split
        · have := itoaR_size c.2.2.2.2.2.1; omega
        · split
          · have := itoaR_size c.2.2.2.2.1; omega
          · split
            · exact hexW_size _ hc.a
            · exact hexW_size _ hc.b
theorem wordsR_tot (c : Cmd) (hc : InC c) : tot (wordsR c) ≤ 2114 := by
  have hf := formS_len c.1
  have h := sum_le (fun w : ByteArray => w.size + 1) 302 (wordsR c) (fun x hx => by
    unfold wordsR at hx
    rcases List.mem_cons.1 hx with rfl | hx
    · have := nameS_size c.1
      show (nameS c.1).size + 1 ≤ 302
      omega
    · obtain ⟨n, _, rfl⟩ := List.mem_map.1 hx
      have := wordR_size c hc n
      show (wordR c n).size + 1 ≤ 302
      omega)
  have hl : (wordsR c).length ≤ 7 := by unfold wordsR; rw [List.length_cons, List.length_map]; omega
  unfold tot
  have : (wordsR c).length * 302 ≤ 7 * 302 := Nat.mul_le_mul_right _ hl
  omega
theorem RText_is (k : Nat) (c : Cmd) (hc : InC c) (hi : -9223372036854775808 ≤ c.1 ∧ c.1 ≤ 9223372036854775807) : R14 (k + 2301) c = some (textR c) := by
  rw [u14]
  unfold r14 textR
  by_cases h1 : c.1 < 1
  · rw [decide_eq_true h1, if_neg (show ¬ (1 ≤ c.1 ∧ c.1 ≤ 5) by omega)]
    rfl
  rw [decide_eq_false h1]
  by_cases h5 : c.1 > 5
  · rw [decide_eq_true h5, if_neg (show ¬ (1 ≤ c.1 ∧ c.1 ≤ 5) by omega)]
    rfl
  rw [decide_eq_false h5, if_pos (show 1 ≤ c.1 ∧ c.1 ≤ 5 by omega)]
  simp only [beq_self_eq_true, cond_true, cond_false]
  have w : IntKind.wrap .i64 (c.1 - 1) = c.1 - 1 := w64 (by omega) (by omega)
  have hnm : ([(⟨#[100, 105, 102, 102]⟩ : ByteArray), (⟨#[115, 116, 101, 112, 115]⟩ : ByteArray), (⟨#[110, 101, 97, 114]⟩ : ByteArray), (⟨#[97, 112, 112, 108, 121]⟩ : ByteArray), (⟨#[117, 110, 100, 111]⟩ : ByteArray)] : List ByteArray).getD (c.1 - 1).toNat ByteArray.empty = nameS c.1 := by
    have cs : c.1 = 1 ∨ c.1 = 2 ∨ c.1 = 3 ∨ c.1 = 4 ∨ c.1 = 5 := by omega
    rcases cs with e | e | e | e | e <;> rw [e] <;> rfl
  have hlen : (([(⟨#[100, 105, 102, 102]⟩ : ByteArray), (⟨#[115, 116, 101, 112, 115]⟩ : ByteArray), (⟨#[110, 101, 97, 114]⟩ : ByteArray), (⟨#[97, 112, 112, 108, 121]⟩ : ByteArray), (⟨#[117, 110, 100, 111]⟩ : ByteArray)] : List ByteArray).length : Int) = 5 := rfl
  rw [w, hnm, hlen, if_pos (by omega)]
  obtain ⟨f, e1, e2, e3⟩ := fields_is (k + 2299) c.1 (by omega) (by omega)
  rw [e1, Option.bind_some]
  have ht := wordsR_tot c hc
  have hf := formS_len c.1
  have hj := joinS_tot (wordsR c) (by unfold wordsR; simp)
  have ht2 := ht
  unfold wordsR at ht2
  rw [tot_cons] at ht2
  have L : J14_0 (k + 2300) (k + 2300) (nameS c.1, f, 0, c) = _ := rtext_loop (k + 2278) (by omega) c hc f (formS c.1) e2 e3 (formS_mem _) hf.2 (k + 2300) 0 (nameS c.1) (by omega) (by omega) (by rw [List.drop_zero]; omega)
  rw [List.drop_zero, catS_join] at L
  have hw : nameS c.1 :: (formS c.1).map (wordR c) = wordsR c := rfl
  rw [hw] at L
  rw [L, Option.bind_some]
  simp only [onSum]
  rw [RParse_is (k + 2279) _ (by omega) (by omega), Option.bind_some]
  have hok := parse_ok (LineX.joinS (wordsR c))
  generalize parseS (LineX.joinS (wordsR c)) = p at *
  by_cases z : p.2.2 = 0
  · rw [decide_eq_true z]
    simp only [Bool.not_true, beq_self_eq_true, cond_true]
    rw [rsame_is (k + 2299) p.1 c hok hc.ok, Option.bind_some]
    by_cases e : p.1 = c
    · rw [decide_eq_true e, if_pos (show p.2.2 = 0 ∧ p.1 = c from ⟨z, e⟩)]
      rfl
    · rw [decide_eq_false e, if_neg (show ¬ (p.2.2 = 0 ∧ p.1 = c) from fun h => e h.2)]
      rfl
  · rw [decide_eq_false z, if_neg (show ¬ (p.2.2 = 0 ∧ p.1 = c) from fun h => z h.1)]
    rfl
/-! Both are one. -/
def NN (c : Cmd) : Prop := 0 ≤ c.2.2.2.1 ∧ 0 ≤ c.2.2.2.2.1 ∧ 0 ≤ c.2.2.2.2.2.1
theorem take_nn {n : Int} {w : ByteArray} {c c' : Cmd} (hc : NN c) (h : takeS n w c = some c') : NN c' := by
  obtain ⟨h1, h2, h3⟩ := hc
  unfold takeS at h
  split at h
  · obtain ⟨m, _, rfl⟩ := Option.map_eq_some_iff.1 h; exact ⟨h1, h2, h3⟩
  · split at h
    · obtain ⟨m, _, rfl⟩ := Option.map_eq_some_iff.1 h; exact ⟨h1, h2, h3⟩
    · split at h
      · obtain ⟨m, hm, rfl⟩ := Option.map_eq_some_iff.1 h; exact ⟨numS_nn hm, h2, h3⟩
      · split at h
        · obtain ⟨m, hm, rfl⟩ := Option.map_eq_some_iff.1 h; exact ⟨h1, h2, numS_nn hm⟩
        · split at h
          · obtain ⟨m, hm, rfl⟩ := Option.map_eq_some_iff.1 h; exact ⟨h1, numS_nn hm, h3⟩
          · split at h
            · obtain ⟨m, hm, rfl⟩ := Option.map_eq_some_iff.1 h; exact ⟨h1, h2, h3⟩
            · obtain ⟨m, hm, rfl⟩ := Option.map_eq_some_iff.1 h; exact ⟨h1, h2, h3⟩
theorem loop_nn : ∀ (ws : List ByteArray) (want : List Int) (at' : Nat) (c d : Cmd), NN c → loopS ws want at' c = .inl d → NN d
  | [], want, at', c, d, hc, h => by unfold loopS at h; cases h; exact hc
  | w :: ws, [], at', c, d, hc, h => by unfold loopS at h; cases h
  | w :: ws, n :: want, at', c, d, hc, h => by
    unfold loopS at h
    split at h
    · cases h
    · rename_i c' hx
      exact loop_nn ws want _ c' d (take_nn hc hx) h
theorem parse_nn (s : ByteArray) : NN (parseS s).1 := by
  have z : ∀ n : Int, NN (n, 0, 0, 0, 0, 0, [], []) := fun n => ⟨by simp, by simp, by simp⟩
  unfold parseS
  split
  · exact z 0
  · split
    · exact z 0
    · split
      · exact z 0
      · rename_i c hl
        split
        · exact z 0
        · exact loop_nn _ _ _ _ _ (z _) hl
theorem words_nn {c : Cmd} (h : NN c) : wordsR c = wordsS c := by
  unfold wordsR wordsS
  congr 1
  apply List.map_congr_left
  intro n _
  unfold wordR wordS itoaR
  rw [if_neg (show ¬ c.2.2.2.1 < 0 by have := h.1; omega), if_neg (show ¬ c.2.2.2.2.2.1 < 0 by have := h.2.2; omega), if_neg (show ¬ c.2.2.2.2.1 < 0 by have := h.2.1; omega)]
theorem text_eq (c : Cmd) : textR c = textS c := by
  by_cases h : NN c
  · unfold textR
    rw [words_nn h]
    split
    · rfl
    · rename_i hk
      rcases text_cases c with ⟨s, e, hp⟩ | e
      · have h1 := parse_kind hp
        obtain ⟨_, h2, _⟩ := parse_some hp rfl
        have h3 := kindS_le (nameS c.1)
        omega
      · exact e.symm
  · have e1 : textS c = (⟨#[]⟩, 1) := by
      unfold textS
      rw [if_neg]
      rintro ⟨_, h2⟩
      exact h (h2 ▸ parse_nn _)
    have e2 : textR c = (⟨#[]⟩, 1) := by
      unfold textR
      split
      · rw [if_neg]
        rintro ⟨_, h2⟩
        exact h (h2 ▸ parse_nn _)
      · rfl
    rw [e1, e2]
end Go.Proofs.YtdmmcjefpbbceaaDoor.ELineWrites
