import Derived.Test.YtdmmcjefpbbceaaDoorLin2LineWrites
namespace Go.Proofs.YtdmmcjefpbbceaaDoor.ELineWrites
open Go Go.Proofs.YtdmmcjefpbbceaaDoor.AE Go.Proofs.YtdmmcjefpbbceaaDoor
set_option linter.unusedVariables false
set_option linter.unusedSimpArgs false
/-! A word that is taken; a command that is read. -/
def takeS (n : Int) (w : ByteArray) (c : Cmd) : Option Cmd :=
  if n = 0 then (modeS w).map fun m => (c.1, m, c.2.2)
  else if n = 1 then (engS w).map fun e => (c.1, c.2.1, e, c.2.2.2)
  else if n = 2 then (numS (strBytes w)).map fun v => (c.1, c.2.1, c.2.2.1, v, c.2.2.2.2)
  else if n = 3 then (numS (strBytes w)).map fun v => (c.1, c.2.1, c.2.2.1, c.2.2.2.1, c.2.2.2.2.1, v, c.2.2.2.2.2.2)
  else if n = 4 then (numS (strBytes w)).map fun v => (c.1, c.2.1, c.2.2.1, c.2.2.2.1, v, c.2.2.2.2.2)
  else if n = 5 then (bytS w).map fun b => (c.1, c.2.1, c.2.2.1, c.2.2.2.1, c.2.2.2.2.1, c.2.2.2.2.2.1, b, c.2.2.2.2.2.2.2)
  else (bytS w).map fun b => (c.1, c.2.1, c.2.2.1, c.2.2.2.1, c.2.2.2.2.1, c.2.2.2.2.2.1, c.2.2.2.2.2.2.1, b)
theorem take_is (k : Nat) (n : Int) (w : ByteArray) (c : Cmd) (hw : w.size ≤ k) (hw2 : w.size ≤ 1048576) : ∃ y, R18 (k + 12) n w c = some y ∧ match takeS n w c with | some c' => y = (true, c') | none => y.1 = false := by
  rw [u18]
  unfold r18 takeS
  by_cases h0 : n = 0
  · rw [decide_eq_true h0, if_pos h0, mode_is (k + 10) w]
    simp only [cond_true, Option.bind_some]
    cases modeS w with
    | none => exact ⟨_, rfl, rfl⟩
    | some m => exact ⟨_, rfl, rfl⟩
  rw [decide_eq_false h0, if_neg h0]
  by_cases h1 : n = 1
  · rw [decide_eq_true h1, if_pos h1]
    obtain ⟨y, e, h⟩ := engine_is k w
    simp only [cond_true, cond_false, e, Option.bind_some]
    cases hx : engS w with
    | none => rw [hx] at h; exact ⟨_, rfl, h⟩
    | some m => rw [hx] at h; subst h; exact ⟨_, rfl, rfl⟩
  rw [decide_eq_false h1, if_neg h1]
  by_cases h2 : n = 2
  · rw [decide_eq_true h2, if_pos h2]
    obtain ⟨y, e, h⟩ := number_is (k + 10) w (by omega) hw2
    simp only [cond_true, cond_false, e, Option.bind_some]
    cases hx : numS (strBytes w) with
    | none => rw [hx] at h; exact ⟨_, rfl, h⟩
    | some m => rw [hx] at h; subst h; exact ⟨_, rfl, rfl⟩
  rw [decide_eq_false h2, if_neg h2]
  by_cases h3 : n = 3
  · rw [decide_eq_true h3, if_pos h3]
    obtain ⟨y, e, h⟩ := number_is (k + 10) w (by omega) hw2
    simp only [cond_true, cond_false, e, Option.bind_some]
    cases hx : numS (strBytes w) with
    | none => rw [hx] at h; exact ⟨_, rfl, h⟩
    | some m => rw [hx] at h; subst h; exact ⟨_, rfl, rfl⟩
  rw [decide_eq_false h3, if_neg h3]
  by_cases h4 : n = 4
  · rw [decide_eq_true h4, if_pos h4]
    obtain ⟨y, e, h⟩ := number_is (k + 10) w (by omega) hw2
    simp only [cond_true, cond_false, e, Option.bind_some]
    cases hx : numS (strBytes w) with
    | none => rw [hx] at h; exact ⟨_, rfl, h⟩
    | some m => rw [hx] at h; subst h; exact ⟨_, rfl, rfl⟩
  rw [decide_eq_false h4, if_neg h4]
  obtain ⟨y, e, h⟩ := bytesOf_is (k + 9) w (by omega) hw2
  by_cases h5 : n = 5
  · rw [decide_eq_true h5, if_pos h5]
    simp only [cond_true, cond_false, e, Option.bind_some]
    cases hx : bytS w with
    | none => rw [hx] at h; exact ⟨_, rfl, h⟩
    | some m => rw [hx] at h; subst h; exact ⟨_, rfl, rfl⟩
  · rw [decide_eq_false h5, if_neg h5]
    simp only [cond_true, cond_false, e, Option.bind_some]
    cases hx : bytS w with
    | none => rw [hx] at h; exact ⟨_, rfl, h⟩
    | some m => rw [hx] at h; subst h; exact ⟨_, rfl, rfl⟩
def chr (n : Int) : Int := if n = 0 then 109 else if n = 1 then 101 else if n = 2 then 116 else if n = 3 then 119 else if n = 4 then 107 else if n = 5 then 97 else 98
theorem numL_nn : ∀ (l : List Int) (n v : Int), 0 ≤ n → numL l n = some v → 0 ≤ v
  | [], n, v, h0, h => by unfold numL at h; cases h; exact h0
  | c :: l, n, v, h0, h => by
    unfold numL at h
    split at h
    · exact numL_nn l _ v (by omega) h
    · cases h
theorem numS_nn {b : List Int} {v : Int} (h : numS b = some v) : 0 ≤ v := by
  unfold numS at h
  split at h
  · cases h
  · split at h
    · cases h
    · exact numL_nn _ 0 v (by omega) h
theorem field_is (k : Nat) (n : Int) (w : ByteArray) (c : Cmd) (hn0 : 0 ≤ n) (hn : n ≤ 6) (hw : w.size ≤ k) (hw2 : w.size ≤ 1048576) : ∃ y, R26 (k + 20) c (chr n) w = some y ∧ match takeS n w c with | some c' => y = (c', true) | none => y.2 = false := by
  rw [u26]
  unfold r26 takeS
  rw [rnumber_is (k + 17) w (by omega) hw2, Option.bind_some]
  have nn : ∀ v, numS (strBytes w) = some v → decide (v ≥ 0) = true := fun v h => decide_eq_true (numS_nn h)
  have cs : n = 0 ∨ n = 1 ∨ n = 2 ∨ n = 3 ∨ n = 4 ∨ n = 5 ∨ n = 6 := by omega
  rcases cs with rfl | rfl | rfl | rfl | rfl | rfl | rfl
  · have e0 : chr 0 = 109 := rfl
    rw [e0, if_pos rfl, rmode_is (k + 18) w]
    simp only [decide_true, cond_true, Option.bind_some]
    cases modeS w with
    | none => exact ⟨_, rfl, rfl⟩
    | some m => exact ⟨_, rfl, rfl⟩
  · have e0 : chr 1 = 101 := rfl
    rw [e0, if_neg (by decide), if_pos rfl, rtag_is (k + 9) w]
    simp only [show decide ((101 : Int) = 109) = false from rfl, decide_true, cond_true, cond_false, Option.bind_some]
    unfold engS
    by_cases t : tagS w = 0
    · rw [decide_eq_true t]
      simp only [cond_true, beq_self_eq_true]
      cases strEq w ⟨#[97, 110, 121]⟩ with
      | true => exact ⟨_, rfl, rfl⟩
      | false => exact ⟨_, rfl, rfl⟩
    · rw [decide_eq_false t]
      simp only [cond_false, show (true == false) = false from rfl]
      cases hq : strEq w ⟨#[97, 110, 121]⟩ with
      | true =>
        have := LineX.strEq_eq hq
        rw [this] at t
        exact absurd any_tag t
      | false => exact ⟨_, rfl, rfl⟩
  · have e0 : chr 2 = 116 := rfl
    rw [e0, if_neg (by decide), if_neg (by decide), if_pos rfl]
    simp only [show decide ((116 : Int) = 109) = false from rfl, show decide ((116 : Int) = 101) = false from rfl, decide_true, cond_true, cond_false]
    cases hx : numS (strBytes w) with
    | none => exact ⟨_, rfl, rfl⟩
    | some v => exact ⟨_, rfl, by simp [Option.map, numS_nn hx]⟩
  · have e0 : chr 3 = 119 := rfl
    rw [e0, if_neg (by decide), if_neg (by decide), if_neg (by decide), if_pos rfl]
    simp only [show decide ((119 : Int) = 109) = false from rfl, show decide ((119 : Int) = 101) = false from rfl, show decide ((119 : Int) = 116) = false from rfl, decide_true, cond_true, cond_false]
    cases hx : numS (strBytes w) with
    | none => exact ⟨_, rfl, rfl⟩
    | some v => exact ⟨_, rfl, by simp [Option.map, numS_nn hx]⟩
  · have e0 : chr 4 = 107 := rfl
    rw [e0, if_neg (by decide), if_neg (by decide), if_neg (by decide), if_neg (by decide), if_pos rfl]
    simp only [show decide ((107 : Int) = 109) = false from rfl, show decide ((107 : Int) = 101) = false from rfl, show decide ((107 : Int) = 116) = false from rfl, show decide ((107 : Int) = 119) = false from rfl, decide_true, cond_true, cond_false]
    cases hx : numS (strBytes w) with
    | none => exact ⟨_, rfl, rfl⟩
    | some v => exact ⟨_, rfl, by simp [Option.map, numS_nn hx]⟩
  · have e0 : chr 5 = 97 := rfl
    obtain ⟨y, e, h⟩ := rbytesOf_is k w hw hw2
    rw [e0, if_neg (by decide), if_neg (by decide), if_neg (by decide), if_neg (by decide), if_neg (by decide), if_pos rfl, e]
    simp only [show decide ((97 : Int) = 109) = false from rfl, show decide ((97 : Int) = 101) = false from rfl, show decide ((97 : Int) = 116) = false from rfl, show decide ((97 : Int) = 119) = false from rfl, show decide ((97 : Int) = 107) = false from rfl, decide_true, cond_true, cond_false, Option.bind_some]
    cases hx : bytS w with
    | none => rw [hx] at h; exact ⟨_, rfl, h⟩
    | some m => rw [hx] at h; subst h; exact ⟨_, rfl, rfl⟩
  · have e0 : chr 6 = 98 := rfl
    obtain ⟨y, e, h⟩ := rbytesOf_is k w hw hw2
    rw [e0, if_neg (by decide), if_neg (by decide), if_neg (by decide), if_neg (by decide), if_neg (by decide), if_neg (by decide), e]
    simp only [show decide ((98 : Int) = 109) = false from rfl, show decide ((98 : Int) = 101) = false from rfl, show decide ((98 : Int) = 116) = false from rfl, show decide ((98 : Int) = 119) = false from rfl, show decide ((98 : Int) = 107) = false from rfl, show decide ((98 : Int) = 97) = false from rfl, cond_true, cond_false, Option.bind_some]
    cases hx : bytS w with
    | none => rw [hx] at h; exact ⟨_, rfl, h⟩
    | some m => rw [hx] at h; subst h; exact ⟨_, rfl, rfl⟩
/-! The words. -/
def loopS : List ByteArray → List Int → Nat → Cmd → Cmd ⊕ Nat
  | [], _, _, c => .inl c
  | _ :: _, [], at', _ => .inr at'
  | w :: ws, n :: want, at', c => match takeS n w c with
    | none => .inr at'
    | some c' => loopS ws want (at' + (w.size + 1)) c'
def parseS (s : ByteArray) : Cmd × Int × Int :=
  match LineX.splitS s with
  | [] => (cmd0, 0, 4)
  | w :: ws => if kindS w = 0 then (cmd0, 0, 4) else match loopS ws (formS (kindS w)) (w.size + 1) (kindS w, 0, 0, 0, 0, 0, [], []) with
    | .inr p => (cmd0, (p : Int), 4)
    | .inl c => if ws.length < (formS (kindS w)).length then (cmd0, (s.size : Int), 4) else (c, 0, 0)
def tot (ws : List ByteArray) : Nat := (ws.map fun w => w.size + 1).sum
theorem tot_cons (w : ByteArray) (ws : List ByteArray) : tot (w :: ws) = w.size + 1 + tot ws := by simp [tot]
theorem tot_mem {ws : List ByteArray} {w : ByteArray} (h : w ∈ ws) : w.size + 1 ≤ tot ws := by
  induction ws with
  | nil => cases h
  | cons x ws ih =>
    rw [tot_cons]
    rcases List.mem_cons.1 h with rfl | h
    · omega
    · have := ih h; omega
theorem tot_len (ws : List ByteArray) : ws.length ≤ tot ws := by
  induction ws with
  | nil => simp
  | cons x ws ih => rw [tot_cons, List.length_cons]; omega
theorem spl_tot : ∀ (l cur : List UInt8), tot ((LineX.spl l cur).map fun l => (⟨l.toArray⟩ : ByteArray)) = l.length + cur.length + 1
  | [], cur => by
    show tot [(⟨cur.toArray⟩ : ByteArray)] = _
    rw [tot_cons]
    show cur.toArray.size + 1 + 0 = _
    simp
  | c :: l, cur => by
    unfold LineX.spl
    split
    · show tot ((⟨cur.toArray⟩ : ByteArray) :: (LineX.spl l []).map fun l => (⟨l.toArray⟩ : ByteArray)) = _
      rw [tot_cons, spl_tot l []]
      show cur.toArray.size + 1 + _ = _
      simp
      omega
    · rw [spl_tot l (cur ++ [c])]
      simp
      omega
theorem split_tot (s : ByteArray) : tot (LineX.splitS s) = s.size + 1 := by
  unfold LineX.splitS
  rw [spl_tot]
  have : s.data.toList.length = s.size := by simp
  rw [this]
  simp
theorem spl_ne : ∀ (l cur : List UInt8), LineX.spl l cur ≠ []
  | [], cur => by simp [LineX.spl]
  | c :: l, cur => by
    unfold LineX.spl
    split
    · simp
    · exact spl_ne l _
theorem split_ne (s : ByteArray) : ∃ w ws, LineX.splitS s = w :: ws := by
  unfold LineX.splitS
  cases h : LineX.spl s.data.toList [] with
  | nil => exact absurd h (spl_ne _ _)
  | cons a b => exact ⟨_, _, rfl⟩
theorem parse_loop (k : Nat) (s : ByteArray) (L : List ByteArray) (want : List Int) (ws : List ByteArray) (hws : ∀ w ∈ ws, w.size ≤ k ∧ w.size ≤ 1048576) (hl : ws.length ≤ 1048576) (hwant : want.length ≤ 6) : ∀ (m i at' : Nat) (c : Cmd), ws.length - i < m → i ≤ ws.length → at' + tot (ws.drop i) ≤ 1099511627776 →
    ∃ at2, iter (F8_0 (R15 (k + 12)) (R16 (k + 12)) (R17 (k + 12)) (R18 (k + 12))) m (s, (at' : Int), L, want, ws, (ws.length : Int), (i : Int), c) = some (match loopS (ws.drop i) (want.drop i) at' c with
      | .inr p => .inr (cmd0, (p : Int), 4)
      | .inl c' => .inl (s, at2, L, want, ws, (ws.length : Int), (ws.length : Int), c')) := by
  intro m
  induction m with
  | zero => intro i at' c h; omega
  | succ m ih =>
    intro i at' c hm hi ht
    show ∃ at2, F8_0 _ _ _ _ (iter (F8_0 _ _ _ _) m) _ = _
    unfold F8_0
    simp only
    by_cases h : i < ws.length
    · have hd : ws.drop i = ws[i] :: ws.drop (i + 1) := List.drop_eq_getElem_cons h
      have hwi := hws ws[i] (List.getElem_mem h)
      rw [hd, tot_cons] at ht
      rw [hd, decide_eq_true (show (i : Int) < (ws.length : Int) by omega), cond_true, if_pos (show 0 ≤ (i : Int) ∧ (i : Int) < (ws.length : Int) by omega), getD_b ws h]
      have ih' := fun at2 c2 ha => ih (i + 1) at2 c2 (by omega) h ha
      generalize ws[i] = w at *
      by_cases hwt : i < want.length
      · have hd2 : want.drop i = want[i] :: want.drop (i + 1) := List.drop_eq_getElem_cons hwt
        rw [hd2, decide_eq_false (show ¬ (i : Int) ≥ (want.length : Int) by omega)]
        simp only [beq_self_eq_true, cond_true]
        rw [if_pos (show 0 ≤ (i : Int) ∧ (i : Int) < (want.length : Int) by omega), getD_b want hwt]
        obtain ⟨y, e, hy⟩ := take_is k want[i] w c hwi.1 hwi.2
        rw [e, Option.bind_some]
        unfold loopS
        cases hx : takeS want[i] w c with
        | none =>
          rw [hx] at hy
          have hy' : y.1 = false := hy
          rw [hy']
          exact ⟨0, rfl⟩
        | some c' =>
          rw [hx] at hy
          obtain rfl : y = (true, c') := hy
          have e1 : IntKind.wrap .i64 ((w.size : Int) + 1) = ((w.size + 1 : Nat) : Int) := by rw [w64 (by omega) (by omega)]; omega
          have e2 : IntKind.wrap .i64 ((at' : Int) + ((w.size + 1 : Nat) : Int)) = ((at' + (w.size + 1) : Nat) : Int) := by rw [w64 (by omega) (by omega)]; omega
          simp only [Bool.not_true, cond_false, e1, e2, succ_b (Nat.le_of_lt h) (show ws.length ≤ 1099511627776 by omega)]
          exact ih' (at' + (w.size + 1)) c' (by omega)
      · have hd2 : want.drop i = [] := List.drop_eq_nil_of_le (by omega)
        rw [hd2, decide_eq_true (show (i : Int) ≥ (want.length : Int) by omega)]
        exact ⟨0, rfl⟩
    · obtain rfl : i = ws.length := by omega
      rw [decide_eq_false (show ¬ (ws.length : Int) < (ws.length : Int) by omega), List.drop_length]
      exact ⟨(at' : Int), rfl⟩
theorem formS_len (n : Int) : 2 ≤ (formS n).length ∧ (formS n).length ≤ 6 := by
  unfold formS
  split
  · decide
  · split <;> decide
/-- PARSE. -/
theorem Parse_is (k : Nat) (s : ByteArray) (hs : s.size < k) (hs2 : s.size ≤ 1048500) : R8 (k + 13) s = some (parseS s) := by
  have hsp : R15 (k + 12) s ⟨#[32]⟩ = some (LineX.splitS s) := by
    show LineX.splitW (s, ⟨#[32]⟩) = _
    unfold LineX.splitW
    rw [if_pos]
    simp only [Bool.and_eq_true, decide_eq_true_eq]
    exact ⟨rfl, by omega⟩
  rw [u8]
  unfold r8 parseS
  obtain ⟨w, ws, hw⟩ := split_ne s
  have ht := split_tot s
  rw [hw, tot_cons] at ht
  rw [hsp, hw, Option.bind_some]
  have h0 : 0 ≤ (0 : Int) ∧ (0 : Int) < ((w :: ws).length : Int) := ⟨by omega, by rw [List.length_cons]; omega⟩
  have g0 : (w :: ws).getD (0 : Int).toNat ByteArray.empty = w := rfl
  have lt := tot_len ws
  have lf := formS_len (kindS w)
  simp only [if_pos h0, g0]
  rw [kind_is (k + 5) w, Option.bind_some]
  by_cases hk : kindS w = 0
  · rw [decide_eq_true hk, if_pos hk]
    rfl
  · rw [decide_eq_false hk, if_neg hk]
    simp only [cond_false, Bool.not_true]
    rw [form_is (k + 11) (kindS w), Option.bind_some]
    have e1 : IntKind.wrap .i64 ((w.size : Int) + 1) = ((w.size + 1 : Nat) : Int) := by rw [w64 (by omega) (by omega)]; omega
    have h1 : 0 ≤ (1 : Int) ∧ (1 : Int) ≤ ((w :: ws).length : Int) ∧ ((w :: ws).length : Int) ≤ ((w :: ws).length : Int) := ⟨by omega, by rw [List.length_cons]; omega, by omega⟩
    have ec : cut (w :: ws) (1 : Int) ((w :: ws).length : Int) = ws := by
      show ((w :: ws).take (w :: ws).length).drop 1 = ws
      rw [List.take_length]
      rfl
    rw [if_pos h1, ec, e1]
    obtain ⟨at2, L⟩ := parse_loop k s (w :: ws) (formS (kindS w)) ws (fun x hx => by have := tot_mem hx; omega) (by omega) lf.2 (k + 12) 0 (w.size + 1) (kindS w, 0, 0, 0, 0, 0, [], []) (by omega) (by omega) (by rw [List.drop_zero]; omega)
    rw [List.drop_zero, List.drop_zero] at L
    have L' : J8_0 (k + 12) (k + 12) (s, ((w.size + 1 : Nat) : Int), w :: ws, formS (kindS w), ws, (ws.length : Int), 0, (kindS w, 0, 0, 0, 0, 0, [], [])) = _ := L
    rw [L', Option.bind_some]
    cases loopS ws (formS (kindS w)) (w.size + 1) (kindS w, 0, 0, 0, 0, 0, [], []) with
    | inr p => rfl
    | inl c =>
      have e2 : IntKind.wrap .i64 (((w :: ws).length : Int) - 1) = (ws.length : Int) := by rw [List.length_cons, w64 (by omega) (by omega)]; omega
      simp only [onSum, e2]
      by_cases hlt : ws.length < (formS (kindS w)).length
      · rw [decide_eq_true (show (ws.length : Int) < ((formS (kindS w)).length : Int) by omega), if_pos hlt]
        rfl
      · rw [decide_eq_false (show ¬ (ws.length : Int) < ((formS (kindS w)).length : Int) by omega), if_neg hlt]
        rfl
/-! The reference's words. -/
def offs : Nat → List ByteArray → List (ByteArray × Int)
  | _, [] => []
  | a, w :: ws => (w, (a : Int)) :: offs (a + (w.size + 1)) ws
theorem offs_len : ∀ (a : Nat) (ws : List ByteArray), (offs a ws).length = ws.length
  | _, [] => rfl
  | a, w :: ws => by rw [offs, List.length_cons, offs_len, List.length_cons]
theorem ext_mk (s : ByteArray) (a b : Nat) : s.extract a b = ⟨((s.data.toList.take b).drop a).toArray⟩ := by
  have h := Lib.extract_data s a b
  rw [← List.drop_take] at h
  rw [← h]
theorem words_loop (s : ByteArray) (hs : s.size ≤ 1048576) : ∀ (m i f : Nat) (acc : List (ByteArray × Int)), s.size + 1 - i < m → f ≤ i → i ≤ s.size → acc.length ≤ i →
    iter F23_0 m (s, (f : Int), (i : Int), acc) = some (.inl (s, ((s.size + 1 : Nat) : Int), ((s.size + 1 : Nat) : Int), acc ++ offs f ((LineX.spl (s.data.toList.drop i) ((s.data.toList.take i).drop f)).map fun l => (⟨l.toArray⟩ : ByteArray)))) := by
  have hlen : s.data.toList.length = s.size := by simp
  intro m
  induction m with
  | zero => intro i f acc h; omega
  | succ m ih =>
    intro i f acc hm hf hi ha
    show F23_0 (iter F23_0 m) _ = _
    unfold F23_0
    simp only
    have e1 : IntKind.wrap .i64 ((i : Int) + 1) = ((i + 1 : Nat) : Int) := by rw [w64 (by omega) (by omega)]; omega
    have hcut : 0 ≤ (f : Int) ∧ (f : Int) ≤ (i : Int) ∧ (i : Int) ≤ (s.size : Int) := by omega
    have hcsz : (⟨((s.data.toList.take i).drop f).toArray⟩ : ByteArray).size = i - f := by
      show ((s.data.toList.take i).drop f).toArray.size = _
      simp
      omega
    rw [decide_eq_true (show (i : Int) ≤ (s.size : Int) by omega), cond_true, e1]
    by_cases h : i < s.size
    · have hi' : i < s.data.toList.length := by omega
      have hd : s.data.toList.drop i = s.data.toList[i] :: s.data.toList.drop (i + 1) := List.drop_eq_getElem_cons hi'
      have hb := byteAt_is s i (by rw [strBytes_n]; exact h)
      have hb2 : (strBytes s)[i]'(by rw [strBytes_n]; exact h) = ((s.data.toList[i]).toNat : Int) := by
        unfold strBytes
        simp
      have htk : s.data.toList.take (i + 1) = s.data.toList.take i ++ [s.data.toList[i]] := by rw [List.take_add_one, List.getElem?_eq_getElem hi']; rfl
      have htl : (s.data.toList.take i).length = i := by rw [List.length_take]; omega
      rw [decide_eq_false (show ¬ (i : Int) = (s.size : Int) by omega), hd, hb, hb2]
      simp only [beq_self_eq_true, cond_true]
      rw [if_pos (show 0 ≤ (i : Int) ∧ (i : Int) < (s.size : Int) by omega)]
      have ih1 := ih (i + 1) (i + 1) (acc ++ [(⟨((s.data.toList.take i).drop f).toArray⟩, (f : Int))]) (by omega) (by omega) h (by rw [List.length_append]; simp; omega)
      have ih2 := ih (i + 1) f acc (by omega) (by omega) h (by omega)
      have hdn : (s.data.toList.take (i + 1)).drop (i + 1) = [] := List.drop_eq_nil_of_le (by rw [List.length_take]; omega)
      have hda : (s.data.toList.take (i + 1)).drop f = (s.data.toList.take i).drop f ++ [s.data.toList[i]] := by rw [htk, List.drop_append_of_le_length (by omega)]
      rw [hdn] at ih1
      rw [hda] at ih2
      generalize s.data.toList[i] = b at *
      have es : LineX.spl (b :: s.data.toList.drop (i + 1)) ((s.data.toList.take i).drop f) = if b == 32 then (s.data.toList.take i).drop f :: LineX.spl (s.data.toList.drop (i + 1)) [] else LineX.spl (s.data.toList.drop (i + 1)) ((s.data.toList.take i).drop f ++ [b]) := rfl
      rw [es]
      have hbb : decide ((b.toNat : Int) = 32) = (b == 32) := by
        rw [Bool.eq_iff_iff]
        simp only [decide_eq_true_eq, beq_iff_eq]
        constructor
        · intro hh
          have : b.toNat = (32 : UInt8).toNat := by show b.toNat = 32; omega
          exact UInt8.toNat_inj.1 this
        · intro hh; rw [hh]; rfl
      rw [hbb]
      cases hq : (b == 32) with
      | true =>
        simp only [cond_true, if_true]
        rw [if_pos hcut, Int.toNat_natCast, Int.toNat_natCast, ext_mk, if_pos (by simp only [List.length_cons, List.length_nil]; omega)]
        refine ih1.trans ?_
        simp only [List.map_cons, offs, hcsz, List.append_assoc, List.cons_append, List.nil_append]
        rw [show f + (i - f + 1) = i + 1 by omega]
      | false =>
        simp only [cond_false, Bool.false_eq_true, if_false]
        exact ih2
    · obtain rfl : i = s.size := by omega
      have hd : s.data.toList.drop s.size = [] := List.drop_eq_nil_of_le (by omega)
      rw [decide_eq_true (show (s.size : Int) = (s.size : Int) from rfl), hd]
      simp only [show (true == false) = false from rfl, cond_false]
      rw [if_pos hcut, Int.toNat_natCast, Int.toNat_natCast, ext_mk, if_pos (by simp only [List.length_cons, List.length_nil]; omega)]
      obtain ⟨m', rfl⟩ : ∃ m', m = m' + 1 := ⟨m - 1, by omega⟩
      show F23_0 (iter F23_0 m') _ = _
      unfold F23_0
      simp only
      rw [decide_eq_false (show ¬ ((s.size + 1 : Nat) : Int) ≤ (s.size : Int) by omega)]
      rfl
theorem words_is (k : Nat) (s : ByteArray) (hs : s.size ≤ 1048576) (hk : s.size + 1 < k) : R23 (k + 1) s = some (offs 0 (LineX.splitS s)) := by
  rw [u23]
  unfold r23
  have e : J23_0 k k (s, 0, 0, []) = _ := words_loop s hs k 0 0 [] (by omega) (by omega) (by omega) (by simp)
  rw [e, Option.bind_some]
  rfl
theorem fields_is (k : Nat) (n : Int) (h1 : 1 ≤ n) (h2 : n ≤ 5) : ∃ f : ByteArray, R25 (k + 1) n = some f ∧ f.size = (formS n).length ∧ ∀ j (h : j < (formS n).length), byteAt f (j : Int) = chr ((formS n)[j]) := by
  have cs : n = 1 ∨ n = 2 ∨ n = 3 ∨ n = 4 ∨ n = 5 := by omega
  rcases cs with rfl | rfl | rfl | rfl | rfl
  · exact ⟨⟨#[109, 101, 116, 119, 97, 98]⟩, rfl, rfl, by decide⟩
  · exact ⟨⟨#[109, 101, 116, 119, 97, 98]⟩, rfl, rfl, by decide⟩
  · exact ⟨⟨#[109, 107, 97, 98]⟩, rfl, rfl, by decide⟩
  · exact ⟨⟨#[97, 98]⟩, rfl, rfl, by decide⟩
  · exact ⟨⟨#[97, 98]⟩, rfl, rfl, by decide⟩
theorem formS_mem (n : Int) : ∀ x ∈ formS n, 0 ≤ x ∧ x ≤ 6 := by
  unfold formS
  split
  · decide
  · split <;> decide
theorem rparse_loop (k : Nat) (s : ByteArray) (W : List (ByteArray × Int)) (f : ByteArray) (x0 : Cmd) (want : List Int) (ws : List ByteArray) (hW : W.length = ws.length + 1) (hf : f.size = want.length) (hfb : ∀ j (h : j < want.length), byteAt f (j : Int) = chr want[j]) (hmem : ∀ x ∈ want, 0 ≤ x ∧ x ≤ 6) (hws : ∀ w ∈ ws, w.size ≤ k ∧ w.size ≤ 1048576) (hl : ws.length ≤ 1048576) (hwant : want.length ≤ 6) : ∀ (m j at' : Nat) (c : Cmd), ws.length - j < m → j ≤ ws.length → W.drop (j + 1) = offs at' (ws.drop j) →
    iter (F12_0 (R23 (k + 20)) (R24 (k + 20)) (R25 (k + 20)) (R26 (k + 20))) m (s, W, f, ((j + 1 : Nat) : Int), x0, c) = some (match loopS (ws.drop j) (want.drop j) at' c with
      | .inr p => .inr (cmd0, (p : Int), 4)
      | .inl c' => .inl (s, W, f, (W.length : Int), x0, c')) := by
  intro m
  induction m with
  | zero => intro j at' c h; omega
  | succ m ih =>
    intro j at' c hm hi hoff
    show F12_0 _ _ _ _ (iter (F12_0 _ _ _ _) m) _ = _
    unfold F12_0
    simp only
    by_cases h : j < ws.length
    · have hd : ws.drop j = ws[j] :: ws.drop (j + 1) := List.drop_eq_getElem_cons h
      have hwi := hws ws[j] (List.getElem_mem h)
      have hjW : j + 1 < W.length := by omega
      have hdW : W.drop (j + 1) = W[j + 1] :: W.drop (j + 1 + 1) := List.drop_eq_getElem_cons hjW
      rw [hd] at hoff
      rw [hdW, offs, List.cons.injEq] at hoff
      obtain ⟨o1, o2⟩ := hoff
      have hidx : 0 ≤ ((j + 1 : Nat) : Int) ∧ ((j + 1 : Nat) : Int) < (W.length : Int) := by omega
      rw [hd, decide_eq_true (show ((j + 1 : Nat) : Int) < (W.length : Int) by omega), cond_true]
      have gW : W.getD ((j + 1 : Nat) : Int).toNat (ByteArray.empty, (0 : Int)) = (ws[j], (at' : Int)) := by rw [getD_b W hjW, o1]
      rw [gW]
      have ih' := fun c2 => ih (j + 1) (at' + (ws[j].size + 1)) c2 (by omega) h o2
      generalize ws[j] = w at *
      by_cases hwt : j < want.length
      · have hd2 : want.drop j = want[j] :: want.drop (j + 1) := List.drop_eq_getElem_cons hwt
        have hm6 := hmem want[j] (List.getElem_mem hwt)
        have e1 : IntKind.wrap .i64 (((j + 1 : Nat) : Int) - 1) = (j : Int) := by rw [w64 (by omega) (by omega)]; omega
        have e3 : IntKind.wrap .i64 (((j + 1 : Nat) : Int) + 1) = ((j + 1 + 1 : Nat) : Int) := by rw [w64 (by omega) (by omega)]; omega
        rw [hd2, decide_eq_false (show ¬ ((j + 1 : Nat) : Int) > (f.size : Int) by omega), e1, e3]
        simp only [cond_false]
        rw [if_pos (show 0 ≤ (j : Int) ∧ (j : Int) < (f.size : Int) by omega), hfb j hwt, if_pos hidx]
        obtain ⟨y, e, hy⟩ := field_is k want[j] w c hm6.1 hm6.2 hwi.1 hwi.2
        rw [e, Option.bind_some]
        unfold loopS
        cases hx : takeS want[j] w c with
        | none =>
          rw [hx] at hy
          have hy' : y.2 = false := hy
          rw [hy', if_pos hidx]
          rfl
        | some c' =>
          rw [hx] at hy
          obtain rfl : y = (c', true) := hy
          simp only [Bool.not_true, cond_false]
          exact ih' c'
      · have hd2 : want.drop j = [] := List.drop_eq_nil_of_le (by omega)
        rw [hd2, decide_eq_true (show ((j + 1 : Nat) : Int) > (f.size : Int) by omega), if_pos hidx]
        rfl
    · obtain rfl : j = ws.length := by omega
      rw [decide_eq_false (show ¬ ((ws.length + 1 : Nat) : Int) < (W.length : Int) by omega), List.drop_length, hW]
      rfl
/-! THE REFERENCE's PARSE. -/
theorem RParse_is (k : Nat) (s : ByteArray) (hs : s.size < k) (hs2 : s.size ≤ 1048500) : R12 (k + 21) s = some (parseS s) := by
  rw [u12]
  unfold r12 parseS
  obtain ⟨w, ws, hw⟩ := split_ne s
  have ht := split_tot s
  rw [hw, tot_cons] at ht
  have hwd := words_is (k + 19) s (by omega) (by omega)
  rw [hw] at hwd
  rw [hwd, hw, Option.bind_some]
  have lt := tot_len ws
  have hol := offs_len 0 (w :: ws)
  have h0 : 0 ≤ (0 : Int) ∧ (0 : Int) < ((offs 0 (w :: ws)).length : Int) := ⟨by omega, by rw [hol, List.length_cons]; omega⟩
  have g0 : (offs 0 (w :: ws)).getD (0 : Int).toNat (ByteArray.empty, (0 : Int)) = (w, 0) := rfl
  have lf := formS_len (kindS w)
  simp only [if_pos h0, g0]
  rw [rkind_is (k + 13) w, Option.bind_some]
  have hkl := kindS_le w
  by_cases hk : kindS w = 0
  · simp only [decide_eq_true hk, if_pos hk, cond_true]
    rfl
  · simp only [decide_eq_false hk, if_neg hk, cond_false]
    obtain ⟨f, e1, e2, e3⟩ := fields_is (k + 19) (kindS w) (by omega) hkl.2
    rw [e1, Option.bind_some]
    have L := rparse_loop k s (offs 0 (w :: ws)) f (0, 0, 0, 0, 0, 0, [], []) (formS (kindS w)) ws (by rw [hol, List.length_cons]) e2 e3 (formS_mem _) (fun x hx => by have := tot_mem hx; omega) (by omega) lf.2 (k + 20) 0 (w.size + 1) (kindS w, 0, 0, 0, 0, 0, [], []) (by omega) (by omega) (by
      rw [List.drop_zero]
      show offs (0 + (w.size + 1)) ws = _
      rw [Nat.zero_add])
    rw [List.drop_zero, List.drop_zero] at L
    have L' : J12_0 (k + 20) (k + 20) (s, offs 0 (w :: ws), f, 1, (0, 0, 0, 0, 0, 0, [], []), (kindS w, 0, 0, 0, 0, 0, [], [])) = _ := L
    rw [L', Option.bind_some]
    cases loopS ws (formS (kindS w)) (w.size + 1) (kindS w, 0, 0, 0, 0, 0, [], []) with
    | inr p => rfl
    | inl c =>
      simp only [onSum]
      rw [hol, List.length_cons, e2]
      by_cases hlt : ws.length < (formS (kindS w)).length
      · rw [decide_eq_true (show ((ws.length + 1 : Nat) : Int) ≤ ((formS (kindS w)).length : Int) by omega), if_pos hlt]
        rfl
      · rw [decide_eq_false (show ¬ ((ws.length + 1 : Nat) : Int) ≤ ((formS (kindS w)).length : Int) by omega), if_neg hlt]
        rfl
theorem same_self (k : Nat) (c : Cmd) : R13 (k + 1) c c = some true := by
  rw [u13]
  unfold r13
  have e : ∀ x : ByteArray, strEq x x = true := fun x => by unfold strEq; simp
  simp only [decide_true, beq_self_eq_true, cond_true, e]
end Go.Proofs.YtdmmcjefpbbceaaDoor.ELineWrites
