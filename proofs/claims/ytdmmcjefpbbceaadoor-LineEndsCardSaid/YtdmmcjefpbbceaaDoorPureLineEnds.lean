import Derived.Test.YtdmmcjefpbbceaaDoorLin6LineEnds
namespace Go.Proofs.YtdmmcjefpbbceaaDoor.ELineEnds
open Go Go.Proofs.YtdmmcjefpbbceaaDoor.AE Go.Proofs.YtdmmcjefpbbceaaDoor
set_option linter.unusedVariables false
abbrev CT : Ty := .pair (.int .i64) (.pair (.int .i64) (.pair (.int .i64) (.pair (.int .i64) (.pair (.int .i64) (.pair (.int .i64) (.pair (.slice (.int .u8)) (.one (.slice (.int .u8)))))))))
theorem in_of (c : Cmd) (w : WF CT c) (h1 : c.2.2.2.2.2.2.1.length ≤ 100) (h2 : c.2.2.2.2.2.2.2.length ≤ 100) : InC c := by
  obtain ⟨_, _, _, wt, wk, ww, wa, wb⟩ := w
  exact ⟨⟨fun x hx => wf_u8 (wa.2 x hx), fun x hx => wf_u8 (wb.2 x hx)⟩, by omega, by omega, wf_i64 wt, wf_i64 wk, wf_i64 ww⟩
theorem awake : R11 3000 () = some true := by kernel_rfl
theorem wrong_is (t : ByteArray) (ht : t.size ≤ 2900) (p : Nat) (h : parseS t = (cmd0, (p : Int), 4)) : R10 3000 t = some (p : Int) := by
  rw [u10]
  unfold r10
  rw [Parse_is 2986 t (by omega) (by omega), Option.bind_some, h]
  rfl
theorem last_loop (more s : ByteArray) (hs : s.size ≤ 1048576) (n : Nat) (hn : n < s.size) (h32 : byteAt s (n : Int) = 32) (hz : ∀ j, n < j → j < s.size → byteAt s (j : Int) ≠ 32) : ∀ (m d : Nat), d < m → n + 1 + d ≤ s.size →
    J7_0 3000 m (more, s, ((n + 1 + d : Nat) : Int)) = some (.inl (more, s, ((n + 1 : Nat) : Int)))
  | 0, d, h, _ => by omega
  | m + 1, d, h, hd => by
    rw [j7_0]
    unfold F7_0
    have e : IntKind.wrap .i64 (((n + 1 + d : Nat) : Int) - 1) = ((n + d : Nat) : Int) := by rw [w64 (by omega) (by omega)]; omega
    simp only [decide_eq_true (show ((n + 1 + d : Nat) : Int) > 0 by omega), beq_self_eq_true, cond_true, e]
    rw [if_pos (show 0 ≤ ((n + d : Nat) : Int) ∧ ((n + d : Nat) : Int) < (s.size : Int) by omega)]
    cases d with
    | zero =>
      rw [Nat.add_zero, h32]
      rfl
    | succ d =>
      rw [decide_eq_false (hz (n + (d + 1)) (by omega) (by omega))]
      have := last_loop more s hs n hn h32 hz m d (by omega) (by omega)
      rw [show n + (d + 1) = n + 1 + d by omega]
      exact this
theorem law (c : Cmd) (more : ByteArray) (w : WF CT c) : R7 3001 c more = some true := by
  rw [u7]
  unfold r7
  dsimp only
  rw [awake, Option.bind_some]
  simp only [Bool.not_true, cond_false]
  by_cases h1 : c.2.2.2.2.2.2.1.length ≤ 100
  · rw [decide_eq_false (show ¬ (c.2.2.2.2.2.2.1.length : Int) > 100 by omega)]
    simp only [beq_self_eq_true, cond_true]
    by_cases h2 : c.2.2.2.2.2.2.2.length ≤ 100
    · rw [decide_eq_false (show ¬ (c.2.2.2.2.2.2.2.length : Int) > 100 by omega)]
      simp only [beq_self_eq_true, cond_true]
      by_cases h3 : more.size ≤ 40
      · rw [decide_eq_false (show ¬ (more.size : Int) > 40 by omega)]
        simp only [cond_false]
        have hin := in_of c w h1 h2
        rw [Text_is 799 c hin, Option.bind_some]
        rcases text_cases c with ⟨s, e, hp⟩ | e
        · have hsz : s.size ≤ 2200 := by
            have ht := words_tot c hin
            have hs := split_tot s
            obtain ⟨_, _, h3, _⟩ := parse_some hp rfl
            rw [h3] at hs
            omega
          rw [e]
          simp only [decide_true, Bool.not_true, cond_false]
          obtain ⟨xs, z, hxs, hb, hz, p1, p2, p3⟩ := ends hp more
          have hn := strBytes_n s
          have hlen : s.data.toList.length = s.size := by simp
          have hl2 := congrArg List.length hb
          rw [hlen, List.length_append, List.length_cons] at hl2
          generalize hn0 : (LineX.joinL xs).length = n at *
          have bt : ∀ (j : Nat) (hj : j < s.data.toList.length), byteAt s (j : Int) = ((s.data.toList[j]).toNat : Int) := by
            intro j hj
            rw [byteAt_is s j (by omega)]
            unfold strBytes
            simp
          have h32 : byteAt s (n : Int) = 32 := by
            rw [bt n (by omega)]
            have : s.data.toList[n]'(by omega) = 32 := by
              simp only [hb]
              rw [List.getElem_append_right (by omega)]
              simp [hn0]
            rw [this]; rfl
          have hzz : ∀ j, n < j → j < s.size → byteAt s (j : Int) ≠ 32 := by
            intro j hj hj2 he
            rw [bt j (by omega)] at he
            have h4 : s.data.toList[j]'(by omega) = 32 := UInt8.toNat_inj.1 (by show _ = 32; omega)
            have h5 : s.data.toList[j]'(by omega) ∈ z := by
              simp only [hb]
              rw [List.getElem_append_right (by omega)]
              obtain ⟨i, hi⟩ : ∃ i, j - (LineX.joinL xs).length = i + 1 := ⟨j - n - 1, by omega⟩
              simp only [hi, List.getElem_cons_succ]
              exact List.getElem_mem _
            rw [h4] at h5
            exact hz h5
          have L := last_loop more s (by omega) n (by omega) h32 hzz 3000 (s.size - (n + 1)) (by omega) (by omega)
          rw [show n + 1 + (s.size - (n + 1)) = s.size by omega] at L
          rw [L, Option.bind_some]
          have e1 : IntKind.wrap .i64 ((s.size : Int) + 1) = ((s.size + 1 : Nat) : Int) := by rw [w64 (by omega) (by omega)]; omega
          have e2 : IntKind.wrap .i64 (((n + 1 : Nat) : Int) - 1) = (n : Int) := by rw [w64 (by omega) (by omega)]; omega
          have z1 : (⟨#[32]⟩ : ByteArray).size = 1 := rfl
          simp only [onSum, decide_eq_false (show ¬ ((n + 1 : Nat) : Int) < 1 by omega), cond_false, e1, e2]
          rw [if_pos (show s.size + (⟨#[32]⟩ : ByteArray).size ≤ 140737488355328 by rw [z1]; omega), if_pos (show (s ++ ⟨#[32]⟩ : ByteArray).size + more.size ≤ 140737488355328 by rw [ByteArray.size_append, z1]; omega)]
          rw [wrong_is _ (by rw [ByteArray.size_append, ByteArray.size_append, z1]; omega) _ p1, Option.bind_some]
          simp only [decide_true, beq_self_eq_true, cond_true]
          rw [if_pos (show 0 ≤ (0 : Int) ∧ (0 : Int) ≤ (n : Int) ∧ (n : Int) ≤ (s.size : Int) by omega)]
          have d1 : (s.extract (0 : Int).toNat (n : Int).toNat).data.toList = LineX.joinL xs := by
            rw [Lib.extract_data]
            show (s.data.toList.drop 0).take (n - 0) = _
            rw [List.drop_zero, Nat.sub_zero, hb, ← hn0, List.take_left]
          have d2 : (s.extract (0 : Int).toNat ((n + 1 : Nat) : Int).toNat).data.toList = LineX.joinL xs ++ [32] := by
            rw [Lib.extract_data]
            show (s.data.toList.drop 0).take (n + 1 - 0) = _
            rw [List.drop_zero, Nat.sub_zero, hb, List.take_append, hn0, Nat.add_sub_cancel_left, List.take_of_length_le (by omega)]
            rfl
          have q1 := p2 _ d1
          have q2 := p3 _ d2
          have s1 : (s.extract (0 : Int).toNat (n : Int).toNat).size = n := by
            have := congrArg List.length d1
            rw [hn0] at this
            simpa using this
          have s2 : (s.extract (0 : Int).toNat ((n + 1 : Nat) : Int).toNat).size = n + 1 := by
            have := congrArg List.length d2
            rw [List.length_append, hn0] at this
            simpa using this
          rw [s1] at q1
          rw [s2] at q2
          rw [wrong_is _ (by rw [s1]; omega) n q1, Option.bind_some]
          simp only [decide_true, beq_self_eq_true, cond_true]
          rw [if_pos (show 0 ≤ (0 : Int) ∧ (0 : Int) ≤ ((n + 1 : Nat) : Int) ∧ ((n + 1 : Nat) : Int) ≤ (s.size : Int) by omega)]
          rw [wrong_is _ (by rw [s2]; omega) (n + 1) q2, Option.bind_some]
          simp only [decide_true]
        · rw [e]
          rfl
      · rw [decide_eq_true (show (more.size : Int) > 40 by omega)]
        rfl
    · rw [decide_eq_true (show (c.2.2.2.2.2.2.2.length : Int) > 100 by omega)]
      rfl
  · rw [decide_eq_true (show (c.2.2.2.2.2.2.1.length : Int) > 100 by omega)]
    rfl
theorem law_run (a0 : Cmd) (w0 : WF CT a0) (a1 : ByteArray) (w1 : WF .str a1) : runHow E (evalF E 3000) 3000 s7 (a0, a1) h7 = some true := (law_R 3000 a0 a1).trans (law a0 a1 w0)
end Go.Proofs.YtdmmcjefpbbceaaDoor.ELineEnds
