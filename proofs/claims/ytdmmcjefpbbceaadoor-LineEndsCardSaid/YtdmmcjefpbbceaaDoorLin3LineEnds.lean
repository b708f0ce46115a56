import Derived.Test.YtdmmcjefpbbceaaDoorLin2LineEnds
namespace Go.Proofs.YtdmmcjefpbbceaaDoor.ELineEnds
open Go Go.Proofs.YtdmmcjefpbbceaaDoor.AE Go.Proofs.YtdmmcjefpbbceaaDoor
set_option linter.unusedVariables false
set_option linter.unusedSimpArgs false
/-! A word that is taken; a command that is read. -/
def takeS (n : Int) (w : ByteArray) (c : Cmd) : Option Cmd :=
  if n = 0 then (modeS w).map fun m => (c.1, m, c.2.2)
  else if n = 1 then (engS w).map fun e => (c.1, c.2.1, e, c.2.2.2)
  else if n = 2 then (numS (strBytes w)).map fun v => (c.1, c.2.1, c.2.2.1, v, c.2.2.2.2)
  else if n = 3 then (numS (strBytes w)).map fun v => (c.1, c.2.1, c.2.2.1, c.2.2.2.1, c.2.2.2.2.1, v, c.2.2.2.2.2.2)
  else if n = 4 then (numS (strBytes w)).map fun v => (c.1, c.2.1, c.2.2.1, c.2.2.2.1, v, c.2.2.2.2.2)
  else if n = 5 then (bytS w).map fun b => (c.1, c.2.1, c.2.2.1, c.2.2.2.1, c.2.2.2.2.1, c.2.2.2.2.2.1, b, c.2.2.2.2.2.2.2)
  else (bytS w).map fun b => (c.1, c.2.1, c.2.2.1, c.2.2.2.1, c.2.2.2.2.1, c.2.2.2.2.2.1, c.2.2.2.2.2.2.1, b)
theorem take_is (k : Nat) (n : Int) (w : ByteArray) (c : Cmd) (hw : w.size ≤ k) (hw2 : w.size ≤ 1048576) : ∃ y, R18 (k + 12) n w c = some y ∧ match takeS n w c with | some c' => y = (true, c') | none => y.1 = false := by
  rw [u18]
  unfold r18 takeS
  by_cases h0 : n = 0
  · rw [decide_eq_true h0, if_pos h0, mode_is (k + 10) w]
    simp only [cond_true, Option.bind_some]
    cases modeS w with
    | none => exact ⟨_, rfl, rfl⟩
    | some m => exact ⟨_, rfl, rfl⟩
  rw [decide_eq_false h0, if_neg h0]
  by_cases h1 : n = 1
  · rw [decide_eq_true h1, if_pos h1]
    obtain ⟨y, e, h⟩ := engine_is k w
    simp only [cond_true, cond_false, e, Option.bind_some]
    cases hx : engS w with
    | none => rw [hx] at h; exact ⟨_, rfl, h⟩
    | some m => rw [hx] at h; subst h; exact ⟨_, rfl, rfl⟩
  rw [decide_eq_false h1, if_neg h1]
  by_cases h2 : n = 2
  · rw [decide_eq_true h2, if_pos h2]
    obtain ⟨y, e, h⟩ := number_is (k + 10) w (by omega) hw2
    simp only [cond_true, cond_false, e, Option.bind_some]
    cases hx : numS (strBytes w) with
    | none => rw [hx] at h; exact ⟨_, rfl, h⟩
    | some m => rw [hx] at h; subst h; exact ⟨_, rfl, rfl⟩
  rw [decide_eq_false h2, if_neg h2]
  by_cases h3 : n = 3
  · rw [decide_eq_true h3, if_pos h3]
    obtain ⟨y, e, h⟩ := number_is (k + 10) w (by omega) hw2
    simp only [cond_true, cond_false, e, Option.bind_some]
    cases hx : numS (strBytes w) with
    | none => rw [hx] at h; exact ⟨_, rfl, h⟩
    | some m => rw [hx] at h; subst h; exact ⟨_, rfl, rfl⟩
  rw [decide_eq_false h3, if_neg h3]
  by_cases h4 : n = 4
  · rw [decide_eq_true h4, if_pos h4]
    obtain ⟨y, e, h⟩ := number_is (k + 10) w (by omega) hw2
    simp only [cond_true, cond_false, e, Option.bind_some]
    cases hx : numS (strBytes w) with
    | none => rw [hx] at h; exact ⟨_, rfl, h⟩
    | some m => rw [hx] at h; subst h; exact ⟨_, rfl, rfl⟩
  rw [decide_eq_false h4, if_neg h4]
  obtain ⟨y, e, h⟩ := bytesOf_is (k + 9) w (by omega) hw2
  by_cases h5 : n = 5
  · rw [decide_eq_true h5, if_pos h5]
    simp only [cond_true, cond_false, e, Option.bind_some]
    cases hx : bytS w with
    | none => rw [hx] at h; exact ⟨_, rfl, h⟩
    | some m => rw [hx] at h; subst h; exact ⟨_, rfl, rfl⟩
  · rw [decide_eq_false h5, if_neg h5]
    simp only [cond_true, cond_false, e, Option.bind_some]
    cases hx : bytS w with
    | none => rw [hx] at h; exact ⟨_, rfl, h⟩
    | some m => rw [hx] at h; subst h; exact ⟨_, rfl, rfl⟩
def chr (n : Int) : Int := if n = 0 then 109 else if n = 1 then 101 else if n = 2 then 116 else if n = 3 then 119 else if n = 4 then 107 else if n = 5 then 97 else 98
theorem numL_nn : ∀ (l : List Int) (n v : Int), 0 ≤ n → numL l n = some v → 0 ≤ v
  | [], n, v, h0, h => by unfold numL at h; cases h; exact h0
  | c :: l, n, v, h0, h => by
    unfold numL at h
    split at h
    · exact numL_nn l _ v (by omega) h
    · cases h
theorem numS_nn {b : List Int} {v : Int} (h : numS b = some v) : 0 ≤ v := by
  unfold numS at h
  split at h
  · cases h
  · split at h
    · cases h
    · exact numL_nn _ 0 v (by omega) h
def loopS : List ByteArray → List Int → Nat → Cmd → Cmd ⊕ Nat
  | [], _, _, c => .inl c
  | _ :: _, [], at', _ => .inr at'
  | w :: ws, n :: want, at', c => match takeS n w c with
    | none => .inr at'
    | some c' => loopS ws want (at' + (w.size + 1)) c'
def parseS (s : ByteArray) : Cmd × Int × Int :=
  match LineX.splitS s with
  | [] => (cmd0, 0, 4)
  | w :: ws => if kindS w = 0 then (cmd0, 0, 4) else match loopS ws (formS (kindS w)) (w.size + 1) (kindS w, 0, 0, 0, 0, 0, [], []) with
    | .inr p => (cmd0, (p : Int), 4)
    | .inl c => if ws.length < (formS (kindS w)).length then (cmd0, (s.size : Int), 4) else (c, 0, 0)
def tot (ws : List ByteArray) : Nat := (ws.map fun w => w.size + 1).sum
theorem tot_cons (w : ByteArray) (ws : List ByteArray) : tot (w :: ws) = w.size + 1 + tot ws := by simp [tot]
theorem tot_mem {ws : List ByteArray} {w : ByteArray} (h : w ∈ ws) : w.size + 1 ≤ tot ws := by
  induction ws with
  | nil => cases h
  | cons x ws ih =>
    rw [tot_cons]
    rcases List.mem_cons.1 h with rfl | h
    · omega
    · have := ih h; omega
theorem tot_len (ws : List ByteArray) : ws.length ≤ tot ws := by
  induction ws with
  | nil => simp
  | cons x ws ih => rw [tot_cons, List.length_cons]; omega
theorem spl_tot : ∀ (l cur : List UInt8), tot ((LineX.spl l cur).map fun l => (⟨l.toArray⟩ : ByteArray)) = l.length + cur.length + 1
  | [], cur => by
    show tot [(⟨cur.toArray⟩ : ByteArray)] = _
    rw [tot_cons]
    show cur.toArray.size + 1 + 0 = _
    simp
  | c :: l, cur => by
    unfold LineX.spl
    split
    · show tot ((⟨cur.toArray⟩ : ByteArray) :: (LineX.spl l []).map fun l => (⟨l.toArray⟩ : ByteArray)) = _
      rw [tot_cons, spl_tot l []]
      show cur.toArray.size + 1 + _ = _
      simp
      omega
    · rw [spl_tot l (cur ++ [c])]
      simp
      omega
theorem split_tot (s : ByteArray) : tot (LineX.splitS s) = s.size + 1 := by
  unfold LineX.splitS
  rw [spl_tot]
  have : s.data.toList.length = s.size := by simp
  rw [this]
  simp
theorem spl_ne : ∀ (l cur : List UInt8), LineX.spl l cur ≠ []
  | [], cur => by simp [LineX.spl]
  | c :: l, cur => by
    unfold LineX.spl
    split
    · simp
    · exact spl_ne l _
theorem split_ne (s : ByteArray) : ∃ w ws, LineX.splitS s = w :: ws := by
  unfold LineX.splitS
  cases h : LineX.spl s.data.toList [] with
  | nil => exact absurd h (spl_ne _ _)
  | cons a b => exact ⟨_, _, rfl⟩
theorem parse_loop (k : Nat) (s : ByteArray) (L : List ByteArray) (want : List Int) (ws : List ByteArray) (hws : ∀ w ∈ ws, w.size ≤ k ∧ w.size ≤ 1048576) (hl : ws.length ≤ 1048576) (hwant : want.length ≤ 6) : ∀ (m i at' : Nat) (c : Cmd), ws.length - i < m → i ≤ ws.length → at' + tot (ws.drop i) ≤ 1099511627776 →
    ∃ at2, iter (F8_0 (R15 (k + 12)) (R16 (k + 12)) (R17 (k + 12)) (R18 (k + 12))) m (s, (at' : Int), L, want, ws, (ws.length : Int), (i : Int), c) = some (match loopS (ws.drop i) (want.drop i) at' c with
      | .inr p => .inr (cmd0, (p : Int), 4)
      | .inl c' => .inl (s, at2, L, want, ws, (ws.length : Int), (ws.length : Int), c')) := by
  intro m
  induction m with
  | zero => intro i at' c h; omega
  | succ m ih =>
    intro i at' c hm hi ht
    show ∃ at2, F8_0 _ _ _ _ (iter (F8_0 _ _ _ _) m) _ = _
    unfold F8_0
    simp only
    by_cases h : i < ws.length
    · have hd : ws.drop i = ws[i] :: ws.drop (i + 1) := List.drop_eq_getElem_cons h
      have hwi := hws ws[i] (List.getElem_mem h)
      rw [hd, tot_cons] at ht
      rw [hd, decide_eq_true (show (i : Int) < (ws.length : Int) by omega), cond_true, if_pos (show 0 ≤ (i : Int) ∧ (i : Int) < (ws.length : Int) by omega), getD_b ws h]
      have ih' := fun at2 c2 ha => ih (i + 1) at2 c2 (by omega) h ha
      generalize ws[i] = w at *
      by_cases hwt : i < want.length
      · have hd2 : want.drop i = want[i] :: want.drop (i + 1) := List.drop_eq_getElem_cons hwt
        rw [hd2, decide_eq_false (show ¬ (i : Int) ≥ (want.length : Int) by omega)]
        simp only [beq_self_eq_true, cond_true]
        rw [if_pos (show 0 ≤ (i : Int) ∧ (i : Int) < (want.length : Int) by omega), getD_b want hwt]
        obtain ⟨y, e, hy⟩ := take_is k want[i] w c hwi.1 hwi.2
        rw [e, Option.bind_some]
        unfold loopS
        cases hx : takeS want[i] w c with
        | none =>
          rw [hx] at hy
          have hy' : y.1 = false := hy
          rw [hy']
          exact ⟨0, rfl⟩
        | some c' =>
          rw [hx] at hy
          obtain rfl : y = (true, c') := hy
          have e1 : IntKind.wrap .i64 ((w.size : Int) + 1) = ((w.size + 1 : Nat) : Int) := by rw [w64 (by omega) (by omega)]; omega
          have e2 : IntKind.wrap .i64 ((at' : Int) + ((w.size + 1 : Nat) : Int)) = ((at' + (w.size + 1) : Nat) : Int) := by rw [w64 (by omega) (by omega)]; omega
          simp only [Bool.not_true, cond_false, e1, e2, succ_b (Nat.le_of_lt h) (show ws.length ≤ 1099511627776 by omega)]
          exact ih' (at' + (w.size + 1)) c' (by omega)
      · have hd2 : want.drop i = [] := List.drop_eq_nil_of_le (by omega)
        rw [hd2, decide_eq_true (show (i : Int) ≥ (want.length : Int) by omega)]
        exact ⟨0, rfl⟩
    · obtain rfl : i = ws.length := by omega
      rw [decide_eq_false (show ¬ (ws.length : Int) < (ws.length : Int) by omega), List.drop_length]
      exact ⟨(at' : Int), rfl⟩
theorem formS_len (n : Int) : 2 ≤ (formS n).length ∧ (formS n).length ≤ 6 := by
  unfold formS
  split
  · decide
  · split <;> decide
/-- PARSE. -/
theorem Parse_is (k : Nat) (s : ByteArray) (hs : s.size < k) (hs2 : s.size ≤ 1048500) : R8 (k + 13) s = some (parseS s) := by
  have hsp : R15 (k + 12) s ⟨#[32]⟩ = some (LineX.splitS s) := by
    show LineX.splitW (s, ⟨#[32]⟩) = _
    unfold LineX.splitW
    rw [if_pos]
    simp only [Bool.and_eq_true, decide_eq_true_eq]
    exact ⟨rfl, by omega⟩
  rw [u8]
  unfold r8 parseS
  obtain ⟨w, ws, hw⟩ := split_ne s
  have ht := split_tot s
  rw [hw, tot_cons] at ht
  rw [hsp, hw, Option.bind_some]
  have h0 : 0 ≤ (0 : Int) ∧ (0 : Int) < ((w :: ws).length : Int) := ⟨by omega, by rw [List.length_cons]; omega⟩
  have g0 : (w :: ws).getD (0 : Int).toNat ByteArray.empty = w := rfl
  have lt := tot_len ws
  have lf := formS_len (kindS w)
  simp only [if_pos h0, g0]
  rw [kind_is (k + 5) w, Option.bind_some]
  by_cases hk : kindS w = 0
  · rw [decide_eq_true hk, if_pos hk]
    rfl
  · rw [decide_eq_false hk, if_neg hk]
    simp only [cond_false, Bool.not_true]
    rw [form_is (k + 11) (kindS w), Option.bind_some]
    have e1 : IntKind.wrap .i64 ((w.size : Int) + 1) = ((w.size + 1 : Nat) : Int) := by rw [w64 (by omega) (by omega)]; omega
    have h1 : 0 ≤ (1 : Int) ∧ (1 : Int) ≤ ((w :: ws).length : Int) ∧ ((w :: ws).length : Int) ≤ ((w :: ws).length : Int) := ⟨by omega, by rw [List.length_cons]; omega, by omega⟩
    have ec : cut (w :: ws) (1 : Int) ((w :: ws).length : Int) = ws := by
      show ((w :: ws).take (w :: ws).length).drop 1 = ws
      rw [List.take_length]
      rfl
    rw [if_pos h1, ec, e1]
    obtain ⟨at2, L⟩ := parse_loop k s (w :: ws) (formS (kindS w)) ws (fun x hx => by have := tot_mem hx; omega) (by omega) lf.2 (k + 12) 0 (w.size + 1) (kindS w, 0, 0, 0, 0, 0, [], []) (by omega) (by omega) (by rw [List.drop_zero]; omega)
    rw [List.drop_zero, List.drop_zero] at L
    have L' : J8_0 (k + 12) (k + 12) (s, ((w.size + 1 : Nat) : Int), w :: ws, formS (kindS w), ws, (ws.length : Int), 0, (kindS w, 0, 0, 0, 0, 0, [], [])) = _ := L
    rw [L', Option.bind_some]
    cases loopS ws (formS (kindS w)) (w.size + 1) (kindS w, 0, 0, 0, 0, 0, [], []) with
    | inr p => rfl
    | inl c =>
      have e2 : IntKind.wrap .i64 (((w :: ws).length : Int) - 1) = (ws.length : Int) := by rw [List.length_cons, w64 (by omega) (by omega)]; omega
      simp only [onSum, e2]
      by_cases hlt : ws.length < (formS (kindS w)).length
      · rw [decide_eq_true (show (ws.length : Int) < ((formS (kindS w)).length : Int) by omega), if_pos hlt]
        rfl
      · rw [decide_eq_false (show ¬ (ws.length : Int) < ((formS (kindS w)).length : Int) by omega), if_neg hlt]
        rfl
/-! The reference's words. -/
def offs : Nat → List ByteArray → List (ByteArray × Int)
  | _, [] => []
  | a, w :: ws => (w, (a : Int)) :: offs (a + (w.size + 1)) ws
theorem offs_len : ∀ (a : Nat) (ws : List ByteArray), (offs a ws).length = ws.length
  | _, [] => rfl
  | a, w :: ws => by rw [offs, List.length_cons, offs_len, List.length_cons]
theorem ext_mk (s : ByteArray) (a b : Nat) : s.extract a b = ⟨((s.data.toList.take b).drop a).toArray⟩ := by
  have h := Lib.extract_data s a b
  rw [← List.drop_take] at h
  rw [← h]
theorem formS_mem (n : Int) : ∀ x ∈ formS n, 0 ≤ x ∧ x ≤ 6 := by
  unfold formS
  split
  · decide
  · split <;> decide
end Go.Proofs.YtdmmcjefpbbceaaDoor.ELineEnds
