import Derived.Test.YtdmmcjefpbbceaaDoorLin4LineWrites
namespace Go.Proofs.YtdmmcjefpbbceaaDoor.ELineWrites
open Go Go.Proofs.YtdmmcjefpbbceaaDoor.AE Go.Proofs.YtdmmcjefpbbceaaDoor
set_option linter.unusedVariables false
set_option linter.unusedSimpArgs false
/-! What was read is written as it stood. -/
theorem strBytes_inj {a b : ByteArray} (h : strBytes a = strBytes b) : a = b := by
  obtain ⟨a⟩ := a
  obtain ⟨b⟩ := b
  unfold strBytes at h
  have inj : ∀ (x y : List UInt8), x.map (fun b => (b.toNat : Int)) = y.map (fun b => (b.toNat : Int)) → x = y := by
    intro x
    induction x with
    | nil => intro y h; cases y with | nil => rfl | cons b l => cases h
    | cons a l ih =>
      intro y h
      cases y with
      | nil => cases h
      | cons b r =>
        rw [List.map_cons, List.map_cons, List.cons.injEq] at h
        have h1 : a.toNat = b.toNat := by have := h.1; omega
        rw [UInt8.toNat_inj.1 h1, ih r h.2]
  have := inj a.toList b.toList h
  rw [Array.toList_inj.1 this]
theorem strBytes_str (l : List Int) (h : OkB l) : strBytes (bytesStr l) = l := by
  unfold strBytes bytesStr
  show ((l.map fun n => UInt8.ofNat n.toNat).toArray.toList.map fun b => (b.toNat : Int)) = l
  rw [List.toList_toArray, List.map_map]
  conv => rhs; rw [← List.map_id l]
  apply List.map_congr_left
  intro a ha
  have := h a ha
  simp
  omega
theorem hex_back : ∀ x : Nat, x < 256 → 0 ≤ hexS (x : Int) → dgN (hexS (x : Int)).toNat = (x : Int) := by decide +kernel
theorem hexB_back : ∀ (l acc b : List Int), OkB l → l.length % 2 = 0 → hexL l acc = some b → ∃ b', b = acc ++ b' ∧ hexB b' = l
  | [], acc, b, _, _, h => by unfold hexL at h; cases h; exact ⟨[], by simp, rfl⟩
  | [x], acc, b, _, hl, h => by simp at hl
  | x :: y :: l, acc, b, ho, hl, h => by
    unfold hexL at h
    split at h
    · cases h
    · rename_i hn
      have hx := ho x (by simp)
      have hy := ho y (by simp)
      obtain ⟨b', rfl, hb⟩ := hexB_back l _ b (fun z hz => ho z (by simp [hz])) (by simp at hl; omega) h
      obtain ⟨xn, rfl⟩ : ∃ n : Nat, x = (n : Int) := ⟨x.toNat, by omega⟩
      obtain ⟨yn, rfl⟩ : ∃ n : Nat, y = (n : Int) := ⟨y.toNat, by omega⟩
      have bx := hex_back xn (by omega) (by omega)
      have bY := hex_back yn (by omega) (by omega)
      have lx := hexS_le (xn : Int)
      have ly := hexS_le (yn : Int)
      refine ⟨(16 * hexS (xn : Int) + hexS (yn : Int)) :: b', by simp, ?_⟩
      rw [hexB, hb]
      have e1 : (16 * hexS (xn : Int) + hexS (yn : Int)).toNat / 16 = (hexS (xn : Int)).toNat := by omega
      have e2 : (16 * hexS (xn : Int) + hexS (yn : Int)).toNat % 16 = (hexS (yn : Int)).toNat := by omega
      rw [e1, e2, bx, bY]
theorem hexB_ok : ∀ b : List Int, OkB (hexB b)
  | [] => fun x hx => by cases hx
  | x :: l => by
    have key : ∀ v : Nat, 0 ≤ dgN v ∧ dgN v ≤ 255 := by
      intro v
      unfold dgN byteAt
      generalize DIG.data.getD ((v : Nat) : Int).toNat 0 = b
      have := b.toNat_lt
      omega
    intro z hz
    rw [hexB] at hz
    rcases List.mem_cons.1 hz with rfl | hz
    · exact key _
    · rcases List.mem_cons.1 hz with rfl | hz
      · exact key _
      · exact hexB_ok l z hz
theorem bytS_back {w : ByteArray} {b : List Int} (h : bytS w = some b) : hexW b = w := by
  unfold bytS at h
  cases hq : strEq w ⟨#[45]⟩ with
  | true =>
    rw [hq] at h
    cases h
    exact (LineX.strEq_eq hq).symm
  | false =>
    rw [hq, cond_false] at h
    split at h
    · cases h
    · rename_i hz
      obtain ⟨b', e, hb⟩ := hexB_back (strBytes w) [] b (strBytes_ok w) (by rw [strBytes_n]; omega) h
      rw [List.nil_append] at e
      subst e
      have hn := strBytes_n w
      have hl := hexB_len b
      rw [hb, hn] at hl
      unfold hexW
      rw [if_neg (by omega)]
      apply strBytes_inj
      rw [strBytes_str _ (hexB_ok b), hb]
/-! Numbers. -/
def dgI (u : Nat) : List Int := (LineX.digU 20 u).map fun b => (b.toNat : Int)
theorem digU_fuel : ∀ (f g u : Nat), u < 10 ^ f → u < 10 ^ g → LineX.digU (f + 1) u = LineX.digU (g + 1) u
  | 0, g, u, h, _ => by
    have : u = 0 := by simpa using h
    subst this
    simp [LineX.digU]
  | f + 1, 0, u, _, h => by
    have : u = 0 := by simpa using h
    subst this
    simp [LineX.digU]
  | f + 1, g + 1, u, h1, h2 => by
    have ih := digU_fuel f g (u / 10) (by rw [Nat.pow_succ] at h1; omega) (by rw [Nat.pow_succ] at h2; omega)
    show (if u < 10 then _ else LineX.digU (f + 1) (u / 10) ++ _) = (if u < 10 then _ else LineX.digU (g + 1) (u / 10) ++ _)
    rw [ih]
theorem dgI_small {u : Nat} (h : u < 10) : dgI u = [((48 + u : Nat) : Int)] := by
  unfold dgI
  rw [LineX.digU, if_pos h]
  simp
  omega
theorem dgI_step {u : Nat} (h : 10 ≤ u) (h2 : u ≤ 9999999999) : dgI u = dgI (u / 10) ++ [((48 + u % 10 : Nat) : Int)] := by
  unfold dgI
  rw [LineX.digU, if_neg (by omega), digU_fuel 18 19 (u / 10) (by omega) (by omega), List.map_append]
  congr 1
  simp
  omega
theorem numL_back : ∀ (l : List Int) (n : Nat) (v : Int), 0 < n → n ≤ 999999999 → numL l (n : Int) = some v → dgI n ++ l = dgI v.toNat
  | [], n, v, h0, h1, h => by
    unfold numL at h
    cases h
    simp
  | c :: l, n, v, h0, h1, h => by
    unfold numL at h
    split at h
    · rename_i hc
      obtain ⟨d, rfl⟩ : ∃ d : Nat, c = ((48 + d : Nat) : Int) := ⟨(c - 48).toNat, by omega⟩
      have e1 : 10 * (n : Int) + (((48 + d : Nat) : Int) - 48) = ((10 * n + d : Nat) : Int) := by omega
      rw [e1] at h
      have ih := numL_back l (10 * n + d) v (by omega) (by omega) h
      rw [dgI_step (by omega) (by omega), show (10 * n + d) / 10 = n by omega, show (10 * n + d) % 10 = d by omega] at ih
      rw [← ih]
      simp
    · cases h
theorem numS_back {b : List Int} {v : Int} (h : numS b = some v) : dgI v.toNat = b := by
  unfold numS at h
  split at h
  · cases h
  · rename_i c l
    split at h
    · cases h
    · rename_i hn
      unfold numL at h
      split at h
      · rename_i hc
        obtain ⟨d, rfl⟩ : ∃ d : Nat, c = ((48 + d : Nat) : Int) := ⟨(c - 48).toNat, by omega⟩
        have e1 : 10 * (0 : Int) + (((48 + d : Nat) : Int) - 48) = ((d : Nat) : Int) := by omega
        rw [e1] at h
        by_cases z : d = 0
        · subst z
          have : l = [] := by
            cases l with
            | nil => rfl
            | cons y l => exact absurd ⟨rfl, by simp⟩ hn
          subst this
          unfold numL at h
          cases h
          rfl
        · have := numL_back l d v (by omega) (by omega) h
          rw [dgI_small (by omega)] at this
          rw [← this]
          simp
      · cases h
theorem itoaS_back {w : ByteArray} {v : Int} (h : numS (strBytes w) = some v) : LineX.itoaS v = w := by
  have hv := numS_le h
  have hb := numS_back h
  apply strBytes_inj
  rw [← hb]
  unfold LineX.itoaS LineX.itoaL strBytes dgI
  rw [if_neg (by omega)]
/-! Modes, engines, kinds. -/
theorem modeS_back {w : ByteArray} {m : Int} (h : modeS w = some m) : modeN m = w := by
  unfold modeS at h
  cases h1 : strEq w ⟨#[98, 121, 116, 101, 115]⟩ with
  | true => rw [h1] at h; cases h; exact (LineX.strEq_eq h1).symm
  | false =>
    rw [h1, cond_false] at h
    cases h2 : strEq w ⟨#[108, 105, 110, 101, 115]⟩ with
    | true => rw [h2] at h; cases h; exact (LineX.strEq_eq h2).symm
    | false => rw [h2] at h; cases h
theorem tagF_back (w : ByteArray) : ∀ (m : Nat) (i : Int), 1 ≤ i → tagF w m i = 0 ∨ engN (tagF w m i) = w ∧ 1 ≤ tagF w m i
  | 0, i, _ => .inl rfl
  | m + 1, i, hi => by
    unfold tagF
    cases h : strEq (engN i) w with
    | true => rw [cond_true]; exact .inr ⟨LineX.strEq_eq h, hi⟩
    | false => rw [cond_false]; exact tagF_back w m (i + 1) (by omega)
theorem engS_back {w : ByteArray} {e : Int} (h : engS w = some e) : (if e = 0 then (⟨#[97, 110, 121]⟩ : ByteArray) else engN e) = w := by
  unfold engS at h
  cases h1 : strEq w ⟨#[97, 110, 121]⟩ with
  | true => rw [h1] at h; cases h; exact (LineX.strEq_eq h1).symm
  | false =>
    rw [h1, cond_false] at h
    by_cases z : tagS w = 0
    · rw [decide_eq_true z] at h; cases h
    · rw [decide_eq_false z] at h
      cases h
      rcases tagF_back w 8 1 (by omega) with h2 | ⟨h2, h3⟩
      · exact absurd h2 z
      · have h3' : 1 ≤ tagS w := h3
        rw [if_neg (by omega)]
        exact h2
theorem kindS_back {w : ByteArray} (h : kindS w ≠ 0) : nameS (kindS w) = w := by
  unfold kindS at *
  cases h1 : strEq ⟨#[100, 105, 102, 102]⟩ w with
  | true => exact LineX.strEq_eq h1
  | false =>
    rw [h1] at h
    simp only [cond_false] at h ⊢
    cases h2 : strEq ⟨#[115, 116, 101, 112, 115]⟩ w with
    | true => exact LineX.strEq_eq h2
    | false =>
      rw [h2] at h
      simp only [cond_false] at h ⊢
      cases h3 : strEq ⟨#[110, 101, 97, 114]⟩ w with
      | true => exact LineX.strEq_eq h3
      | false =>
        rw [h3] at h
        simp only [cond_false] at h ⊢
        cases h4 : strEq ⟨#[97, 112, 112, 108, 121]⟩ w with
        | true => exact LineX.strEq_eq h4
        | false =>
          rw [h4] at h
          simp only [cond_false] at h ⊢
          cases h5 : strEq ⟨#[117, 110, 100, 111]⟩ w with
          | true => exact LineX.strEq_eq h5
          | false => rw [h5] at h; exact absurd rfl h
/-- What a word becomes is written as the word; all else as it was. -/
theorem take_back {n : Int} {w : ByteArray} {c c' : Cmd} (hn : 0 ≤ n ∧ n ≤ 6) (h : takeS n w c = some c') : wordS c' n = w ∧ c'.1 = c.1 ∧ ∀ n', 0 ≤ n' → n' ≤ 6 → n' ≠ n → wordS c' n' = wordS c n' := by
  have cs : n = 0 ∨ n = 1 ∨ n = 2 ∨ n = 3 ∨ n = 4 ∨ n = 5 ∨ n = 6 := by omega
  have oth : ∀ (d : Cmd), (n ≠ 0 → d.2.1 = c.2.1) → (n ≠ 1 → d.2.2.1 = c.2.2.1) → (n ≠ 2 → d.2.2.2.1 = c.2.2.2.1) → (n ≠ 4 → d.2.2.2.2.1 = c.2.2.2.2.1) → (n ≠ 3 → d.2.2.2.2.2.1 = c.2.2.2.2.2.1) → (n ≠ 5 → d.2.2.2.2.2.2.1 = c.2.2.2.2.2.2.1) → (n ≠ 6 → d.2.2.2.2.2.2.2 = c.2.2.2.2.2.2.2) → ∀ n', 0 ≤ n' → n' ≤ 6 → n' ≠ n → wordS d n' = wordS c n' := by
    intro d q0 q1 q2 q4 q3 q5 q6 n' h0 h6 hne
    unfold wordS
    by_cases m0 : n' = 0
    · rw [if_pos m0, if_pos m0, q0 (by omega)]
    rw [if_neg m0, if_neg m0]
    by_cases m1 : n' = 1
    · rw [if_pos m1, if_pos m1, q1 (by omega)]
    rw [if_neg m1, if_neg m1]
    by_cases m2 : n' = 2
    · rw [if_pos m2, if_pos m2, q2 (by omega)]
    rw [if_neg m2, if_neg m2]
    by_cases m3 : n' = 3
    · rw [if_pos m3, if_pos m3, q3 (by omega)]
    rw [if_neg m3, if_neg m3]
    by_cases m4 : n' = 4
    · rw [if_pos m4, if_pos m4, q4 (by omega)]
    rw [if_neg m4, if_neg m4]
    by_cases m5 : n' = 5
    · rw [if_pos m5, if_pos m5, q5 (by omega)]
    rw [if_neg m5, if_neg m5, q6 (by omega)]
  unfold takeS at h
  rcases cs with rfl | rfl | rfl | rfl | rfl | rfl | rfl
  · rw [if_pos rfl] at h
    obtain ⟨m, hm, rfl⟩ := Option.map_eq_some_iff.1 h
    exact ⟨modeS_back hm, rfl, oth _ (fun h => absurd rfl h) (fun _ => rfl) (fun _ => rfl) (fun _ => rfl) (fun _ => rfl) (fun _ => rfl) (fun _ => rfl)⟩
  · rw [if_neg (by decide), if_pos rfl] at h
    obtain ⟨m, hm, rfl⟩ := Option.map_eq_some_iff.1 h
    exact ⟨engS_back hm, rfl, oth _ (fun _ => rfl) (fun h => absurd rfl h) (fun _ => rfl) (fun _ => rfl) (fun _ => rfl) (fun _ => rfl) (fun _ => rfl)⟩
  · rw [if_neg (by decide), if_neg (by decide), if_pos rfl] at h
    obtain ⟨m, hm, rfl⟩ := Option.map_eq_some_iff.1 h
    exact ⟨itoaS_back hm, rfl, oth _ (fun _ => rfl) (fun _ => rfl) (fun h => absurd rfl h) (fun _ => rfl) (fun _ => rfl) (fun _ => rfl) (fun _ => rfl)⟩
  · rw [if_neg (by decide), if_neg (by decide), if_neg (by decide), if_pos rfl] at h
    obtain ⟨m, hm, rfl⟩ := Option.map_eq_some_iff.1 h
    exact ⟨itoaS_back hm, rfl, oth _ (fun _ => rfl) (fun _ => rfl) (fun _ => rfl) (fun _ => rfl) (fun h => absurd rfl h) (fun _ => rfl) (fun _ => rfl)⟩
  · rw [if_neg (by decide), if_neg (by decide), if_neg (by decide), if_neg (by decide), if_pos rfl] at h
    obtain ⟨m, hm, rfl⟩ := Option.map_eq_some_iff.1 h
    exact ⟨itoaS_back hm, rfl, oth _ (fun _ => rfl) (fun _ => rfl) (fun _ => rfl) (fun h => absurd rfl h) (fun _ => rfl) (fun _ => rfl) (fun _ => rfl)⟩
  · rw [if_neg (by decide), if_neg (by decide), if_neg (by decide), if_neg (by decide), if_neg (by decide), if_pos rfl] at h
    obtain ⟨m, hm, rfl⟩ := Option.map_eq_some_iff.1 h
    exact ⟨bytS_back hm, rfl, oth _ (fun _ => rfl) (fun _ => rfl) (fun _ => rfl) (fun _ => rfl) (fun _ => rfl) (fun h => absurd rfl h) (fun _ => rfl)⟩
  · rw [if_neg (by decide), if_neg (by decide), if_neg (by decide), if_neg (by decide), if_neg (by decide), if_neg (by decide)] at h
    obtain ⟨m, hm, rfl⟩ := Option.map_eq_some_iff.1 h
    exact ⟨bytS_back hm, rfl, oth _ (fun _ => rfl) (fun _ => rfl) (fun _ => rfl) (fun _ => rfl) (fun _ => rfl) (fun _ => rfl) (fun h => absurd rfl h)⟩
theorem loop_back : ∀ (ws : List ByteArray) (want : List Int) (at' : Nat) (c d : Cmd), (∀ x ∈ want, 0 ≤ x ∧ x ≤ 6) → want.Nodup → ws.length = want.length → loopS ws want at' c = .inl d →
    ws = want.map (wordS d) ∧ d.1 = c.1 ∧ ∀ n', 0 ≤ n' → n' ≤ 6 → n' ∉ want → wordS d n' = wordS c n'
  | [], want, at', c, d, hm, hn, hl, h => by
    unfold loopS at h
    cases h
    have : want = [] := List.eq_nil_of_length_eq_zero (by simpa using hl.symm)
    subst this
    exact ⟨rfl, rfl, fun _ _ _ _ => rfl⟩
  | w :: ws, [], at', c, d, hm, hn, hl, h => by simp at hl
  | w :: ws, n :: want, at', c, d, hm, hn, hl, h => by
    unfold loopS at h
    split at h
    · cases h
    · rename_i c' hx
      rw [List.nodup_cons] at hn
      obtain ⟨t1, t2, t3⟩ := take_back (hm n (by simp)) hx
      obtain ⟨l1, l2, l3⟩ := loop_back ws want _ c' d (fun x hx => hm x (by simp [hx])) hn.2 (by simpa using hl) h
      have hn6 := hm n (by simp)
      refine ⟨?_, l2.trans t2, fun n' h0 h6 hni => ?_⟩
      · rw [List.map_cons, ← l1, l3 n hn6.1 hn6.2 hn.1, t1]
      · rw [l3 n' h0 h6 (fun h => hni (by simp [h])), t3 n' h0 h6 (fun h => hni (by simp [h]))]
theorem formS_nodup (n : Int) : (formS n).Nodup := by
  unfold formS
  split
  · decide
  · split <;> decide
theorem loop_in : ∀ (ws : List ByteArray) (want : List Int) (at' : Nat) (c d : Cmd), (∀ w ∈ ws, w.size ≤ 300) → InC c → loopS ws want at' c = .inl d → InC d
  | [], want, at', c, d, _, hc, h => by unfold loopS at h; cases h; exact hc
  | w :: ws, [], at', c, d, _, hc, h => by unfold loopS at h; cases h
  | w :: ws, n :: want, at', c, d, hw, hc, h => by
    unfold loopS at h
    split at h
    · cases h
    · rename_i c' hx
      exact loop_in ws want _ c' d (fun x hx => hw x (by simp [hx])) (take_in (hw w (by simp)) hc hx).1 h
theorem zero_in (n : Int) : InC (n, 0, 0, 0, 0, 0, [], []) := ⟨nil_ok n, by simp, by simp, by simp, by simp, by simp⟩
theorem spl_join : ∀ (l cur : List UInt8), LineX.joinL (LineX.spl l cur) = cur ++ l
  | [], cur => by simp [LineX.spl, LineX.joinL]
  | c :: l, cur => by
    unfold LineX.spl
    split
    · rename_i h
      have hc : c = 32 := by simpa using h
      have ih := spl_join l []
      cases hs : LineX.spl l [] with
      | nil => exact absurd hs (spl_ne _ _)
      | cons a b =>
        rw [hs] at ih
        rw [LineX.joinL, ih, hc]
        simp
    · rw [spl_join l (cur ++ [c])]
      simp
theorem split_join (s : ByteArray) : LineX.joinS (LineX.splitS s) = s := by
  unfold LineX.joinS LineX.splitS
  rw [List.map_map]
  have : (LineX.spl s.data.toList []).map ((fun s : ByteArray => s.data.toList) ∘ fun l => (⟨l.toArray⟩ : ByteArray)) = LineX.spl s.data.toList [] := by
    conv => rhs; rw [← List.map_id (LineX.spl s.data.toList [])]
    apply List.map_congr_left
    intro a _
    simp
  rw [this, spl_join]
  simp
/-- What a command that was read looks like. -/
theorem parse_some {s : ByteArray} {c : Cmd} {at' e : Int} (h : parseS s = (c, at', e)) (he : e = 0) : at' = 0 ∧ c.1 ≠ 0 ∧ LineX.splitS s = wordsS c ∧ ∃ ws, LineX.splitS s = nameS c.1 :: ws ∧ ws.length = (formS c.1).length ∧ loopS ws (formS c.1) ((nameS c.1).size + 1) (c.1, 0, 0, 0, 0, 0, [], []) = .inl c := by
  subst he
  unfold parseS at h
  split at h
  · cases h
  · rename_i w ws hw
    split at h
    · cases h
    · rename_i hk
      split at h
      · cases h
      · rename_i d hl
        split at h
        · cases h
        · rename_i hlen
          cases h
          have hle : ws.length ≤ (formS (kindS w)).length := by
            have key : ∀ (ws : List ByteArray) (want : List Int) (a : Nat) (c d : Cmd), loopS ws want a c = .inl d → ws.length ≤ want.length := by
              intro ws
              induction ws with
              | nil => intro _ _ _ _ _; simp
              | cons w ws ih =>
                intro want a c d h
                cases want with
                | nil => unfold loopS at h; cases h
                | cons n want =>
                  unfold loopS at h
                  split at h
                  · cases h
                  · have := ih want _ _ _ h
                    simp
                    exact this
            exact key _ _ _ _ _ hl
          obtain ⟨l1, l2, l3⟩ := loop_back ws (formS (kindS w)) _ _ c (formS_mem _) (formS_nodup _) (by omega) hl
          have l2' : c.1 = kindS w := l2
          have hnm := kindS_back hk
          refine ⟨rfl, by rw [l2']; exact hk, ?_, ws, ?_, ?_, ?_⟩
          · rw [hw]
            unfold wordsS
            rw [l2', hnm, ← l1]
          · rw [hw, l2', hnm]
          · rw [l2']; omega
          · rw [l2', hnm]; exact hl
theorem parse_none {s : ByteArray} {c : Cmd} {at' e : Int} (h : parseS s = (c, at', e)) (he : e ≠ 0) : c = cmd0 ∧ e = 4 := by
  unfold parseS at h
  split at h
  · cases h; exact ⟨rfl, rfl⟩
  · split at h
    · cases h; exact ⟨rfl, rfl⟩
    · split at h
      · cases h; exact ⟨rfl, rfl⟩
      · split at h
        · cases h; exact ⟨rfl, rfl⟩
        · cases h; exact absurd rfl he
theorem parse_in {s : ByteArray} (hs : s.size ≤ 300) : InC (parseS s).1 := by
  unfold parseS
  split
  · exact zero_in 0
  · rename_i w ws hw
    have ht := split_tot s
    rw [hw, tot_cons] at ht
    split
    · exact zero_in 0
    · split
      · exact zero_in 0
      · rename_i c hl
        split
        · exact zero_in 0
        · exact loop_in ws _ _ _ _ (fun x hx => by have := tot_mem hx; omega) (zero_in _) hl
/-- Read and written again. -/
theorem text_of_parse {s : ByteArray} {c : Cmd} {at' : Int} (h : parseS s = (c, at', 0)) : textS c = (s, 0) := by
  obtain ⟨h1, h2, h3, _⟩ := parse_some h rfl
  unfold textS
  rw [← h3, split_join, h]
  rw [if_pos ⟨rfl, rfl⟩]
theorem text_cases (c : Cmd) : (∃ s, textS c = (s, 0) ∧ parseS s = (c, 0, 0)) ∨ textS c = (⟨#[]⟩, 1) := by
  unfold textS
  split
  · rename_i h
    left
    refine ⟨_, rfl, ?_⟩
    obtain ⟨c', at', e⟩ : ∃ c' at', parseS (LineX.joinS (wordsS c)) = (c', at', 0) := by
      generalize parseS (LineX.joinS (wordsS c)) = p at *
      obtain ⟨x, y, z⟩ := p
      simp only at h
      exact ⟨x, y, by rw [h.1]⟩
    have hc : c' = c := by have := h.2; rw [e] at this; exact this
    obtain ⟨h1, _⟩ := parse_some e rfl
    rw [e, hc, h1]
  · exact .inr rfl
end Go.Proofs.YtdmmcjefpbbceaaDoor.ELineWrites
