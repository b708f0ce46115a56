import Derived.Test.YtakjaafenhdpjaaGreatFmtTopAnyBytes
namespace Go.Proofs.YtakjaafenhdpjaaGreat.ETopAnyBytes
open Go Go.Proofs.YtakjaafenhdpjaaGreat.AE Go.Proofs.YtakjaafenhdpjaaGreat
set_option linter.unusedVariables false
set_option linter.unusedSimpArgs false
/-! The reference's Decode: what it computes. -/
theorem refName_is (k : Nat) (mode : Int) : R14 (k + 1) mode = some (if mode = 0 then ⟨#[98, 121, 116, 101, 115]⟩ else if mode = 1 then ⟨#[108, 105, 110, 101, 115]⟩ else ⟨#[]⟩) := by
  rw [u14]
  unfold r14
  by_cases m0 : mode = 0
  · simp only [decide_eq_true m0, cond_true, if_pos m0]
  · by_cases m1 : mode = 1
    · simp only [decide_eq_false m0, cond_false, decide_eq_true m1, cond_true, if_neg m0, if_pos m1]
    · simp only [decide_eq_false m0, cond_false, decide_eq_false m1, if_neg m0, if_neg m1]
theorem take_two (b : List Int) (f : Nat) (c d : Int) : (b.drop f).take 2 = [c, d] ↔ At b f c ∧ At b (f + 1) d := by
  rw [← take_one b f c, ← take_one b (f + 1) d]
  have e : b.drop (f + 1) = (b.drop f).drop 1 := by rw [List.drop_drop]
  rw [e]
  generalize b.drop f = l
  match l with
  | [] => simp
  | [x] => simp
  | x :: y :: l => simp
theorem ref_head (n : Nat) (b : List Int) (hb : ∀ x ∈ b, 0 ≤ x ∧ x ≤ 255) (hlen : b.length ≤ 1099511627776) (m : Nat) :
    ∃ at', J7_1 (n + 1) (m + 3) (b, -1, 0, 0) = some (.inl (b, (match firstS b with | some mode => mode | none => -1), at', 2)) ∧ (∀ mode, firstS b = some mode → at' = 16) := by
  have step : ∀ (m : Nat) (i mode at0 : Int) (nm : ByteArray), (i = 0 ∨ i = 1) → R14 (n + 1) i = some nm → nm.size = 5 → strBytes ((⟨#[116, 97, 116, 116, 105, 110, 103, 32, 49, 32]⟩ : ByteArray) ++ nm ++ ⟨#[10]⟩) = hd i → bytesStr (hd i) = (⟨#[116, 97, 116, 116, 105, 110, 103, 32, 49, 32]⟩ : ByteArray) ++ nm ++ ⟨#[10]⟩ →
      J7_1 (n + 1) (m + 1) (b, mode, at0, i) = if b.take 16 = hd i then J7_1 (n + 1) m (b, i, 16, i + 1) else J7_1 (n + 1) m (b, mode, at0, i + 1) := by
    intro m i mode at0 nm hi hn hz hs hs2
    rw [j7_1]
    unfold F7_1
    have w : IntKind.wrap .i64 (i + 1) = i + 1 := w64 (by omega) (by omega)
    have z : ((⟨#[116, 97, 116, 116, 105, 110, 103, 32, 49, 32]⟩ : ByteArray) ++ nm ++ ⟨#[10]⟩).size = 16 := by rw [ByteArray.size_append, ByteArray.size_append, hz]; rfl
    have c16 : ((16 : Nat) : Int) = 16 := rfl
    simp only [decide_eq_true (show i < 2 by omega), cond_true, hn, Option.bind_some, w]
    rw [if_pos (by rw [hz]; decide), if_pos (by rw [ByteArray.size_append, hz]; decide), z, c16]
    by_cases hl : 16 ≤ b.length
    · have e2 : cut b (0 : Int) (16 : Int) = b.take 16 := rfl
      have e3 : strEq (bytesStr (b.take 16)) ((⟨#[116, 97, 116, 116, 105, 110, 103, 32, 49, 32]⟩ : ByteArray) ++ nm ++ ⟨#[10]⟩) = decide (b.take 16 = hd i) := by
        rw [← hs2]
        exact strEq_bytes (fun a ha => hb a (List.mem_of_mem_take ha)) (by rw [← hs]; exact strBytes_u8 _)
      rw [decide_eq_true (show (b.length : Int) ≥ 16 by omega), beq_self_eq_true, cond_true, if_pos ⟨by omega, by omega, by omega⟩, e2, e3]
      by_cases q : b.take 16 = hd i
      · rw [decide_eq_true q, cond_true, if_pos q]
      · rw [decide_eq_false q, cond_false, if_neg q]
    · have q : b.take 16 ≠ hd i := fun h => by
        have := congrArg List.length h
        rw [hd_len, List.length_take] at this
        omega
      rw [decide_eq_false (show ¬ (b.length : Int) ≥ 16 by omega), show (false == true) = false from rfl, cond_false, if_neg q]
  have fin : ∀ (m : Nat) (mode at0 : Int), J7_1 (n + 1) (m + 1) (b, mode, at0, 2) = some (.inl (b, mode, at0, 2)) := fun m mode at0 => by
    rw [j7_1]
    rfl
  have N0 : R14 (n + 1) 0 = some ⟨#[98, 121, 116, 101, 115]⟩ := by rw [refName_is n 0, if_pos rfl]
  have N1 : R14 (n + 1) 1 = some ⟨#[108, 105, 110, 101, 115]⟩ := by rw [refName_is n 1, if_neg (by decide), if_pos rfl]
  have s0 := fun m mode at0 => step m 0 mode at0 _ (.inl rfl) N0 rfl rfl rfl
  have s1 := fun m mode at0 => step m 1 mode at0 _ (.inr rfl) N1 rfl rfl rfl
  have o1 : (0 : Int) + 1 = 1 := rfl
  have o2 : (1 : Int) + 1 = 2 := rfl
  rw [show m + 3 = m + 2 + 1 from rfl, s0]
  unfold firstS
  by_cases q0 : b.take 16 = hd 0
  · have q1 : ¬ b.take 16 = hd 1 := fun h => absurd (q0.symm.trans h) (by decide)
    rw [if_pos q0, if_pos q0, o1, show m + 2 = m + 1 + 1 from rfl, s1, if_neg q1, o2, fin]
    exact ⟨16, rfl, fun _ _ => rfl⟩
  · rw [if_neg q0, if_neg q0, o1, show m + 2 = m + 1 + 1 from rfl, s1]
    by_cases q1 : b.take 16 = hd 1
    · rw [if_pos q1, if_pos q1, o2, fin]
      exact ⟨16, rfl, fun _ _ => rfl⟩
    · rw [if_neg q1, if_neg q1, o2, fin]
      exact ⟨0, rfl, fun _ h => by cases h⟩
theorem toksS_succ (mode : Int) (b : List Int) (d f : Nat) (acc : List (List Int)) : toksS mode b (d + 1) f acc = match tokS mode b f with
    | none => .inr f
    | some (t, e) => toksS mode b d e (acc ++ [t]) := rfl
theorem ref_new (k : Nat) (b : List Int) (mode : Int) (hb : ∀ x ∈ b, 0 ≤ x ∧ x ≤ 255) (hlen : b.length ≤ 1099511627776) (hk : b.length < k) (y z : Nat) (hy : y ≤ 1048576) (hz : z ≤ 1048576) (s : List Hk) (x : Int) (o : List (List Int)) : ∀ (m d f : Nat) (acc : List (List Int)), b.length - f < m → f ≤ b.length → d ≤ z → acc.length ≤ f →
    J7_2 (k + 2) m (b, mode, (f : Int), (y : Int), (z : Int), ((y + z - d : Nat) : Int), s, (x, (o, acc))) = some (match toksS mode b d f acc with
      | .inl (l, e) => .inl (b, mode, (e : Int), (y : Int), (z : Int), ((y + z : Nat) : Int), s, (x, (o, l)))
      | .inr p => .inr (0, [], (p : Int), 4))
  | 0, d, f, acc, h, _, _, _ => by omega
  | m + 1, d, f, acc, hm, hf, hd, ha => by
    rw [j7_2]
    unfold F7_2
    have w : IntKind.wrap .i64 ((y : Int) + (z : Int)) = ((y + z : Nat) : Int) := by rw [w64 (by omega) (by omega)]; rfl
    simp only [w]
    cases d with
    | zero =>
      rw [decide_eq_false (show ¬ ((y + z - 0 : Nat) : Int) < ((y + z : Nat) : Int) by omega)]
      rfl
    | succ d =>
      rw [decide_eq_true (show ((y + z - (d + 1) : Nat) : Int) < ((y + z : Nat) : Int) by omega), cond_true, Token_is k mode b f hb hlen hk hf, Option.bind_some]
      unfold toksS
      cases ht : tokS mode b f with
      | none => rfl
      | some r =>
        obtain ⟨t, e⟩ := r
        have hp := tokS_le ht
        have w2 : IntKind.wrap .i64 (((y + z - (d + 1) : Nat) : Int) + 1) = ((y + z - d : Nat) : Int) := by rw [w64 (by omega) (by omega)]; omega
        simp only [decide_eq_false (show ¬ (e : Int) < 0 by omega), cond_false, decide_eq_false (show ¬ ((y + z - (d + 1) : Nat) : Int) < (y : Int) by omega), w2]
        rw [if_pos (by simp only [List.length_cons, List.length_nil]; omega)]
        exact ref_new k b mode hb hlen hk y z hy hz s x o m d e (acc ++ [t]) (by omega) hp.2 (by omega) (by simp; omega)
theorem ref_old (k : Nat) (b : List Int) (mode : Int) (hb : ∀ x ∈ b, 0 ≤ x ∧ x ≤ 255) (hlen : b.length ≤ 1099511627776) (hk : b.length < k) (y z : Nat) (hy : y ≤ 1048576) (hz : z ≤ 1048576) (s : List Hk) (x : Int) : ∀ (m d f : Nat) (acc : List (List Int)), b.length - f < m → f ≤ b.length → d ≤ y → acc.length ≤ f →
    J7_2 (k + 2) m (b, mode, (f : Int), (y : Int), (z : Int), ((y - d : Nat) : Int), s, (x, (acc, []))) = some (match toksS mode b d f acc with
      | .inl (o, e) => (match toksS mode b z e [] with
        | .inl (l, e2) => .inl (b, mode, (e2 : Int), (y : Int), (z : Int), ((y + z : Nat) : Int), s, (x, (o, l)))
        | .inr p => .inr (0, [], (p : Int), 4))
      | .inr p => .inr (0, [], (p : Int), 4))
  | 0, d, f, acc, h, _, _, _ => by omega
  | m + 1, 0, f, acc, hm, hf, hd, ha => by
    have h := ref_new k b mode hb hlen hk y z hy hz s x acc (m + 1) z f [] hm hf (Nat.le_refl _) (by simp)
    rw [show y + z - z = y by omega] at h
    rw [Nat.sub_zero, h]
    rfl
  | m + 1, d + 1, f, acc, hm, hf, hd, ha => by
    rw [j7_2]
    unfold F7_2
    have w : IntKind.wrap .i64 ((y : Int) + (z : Int)) = ((y + z : Nat) : Int) := by rw [w64 (by omega) (by omega)]; rfl
    simp only [w]
    rw [decide_eq_true (show ((y - (d + 1) : Nat) : Int) < ((y + z : Nat) : Int) by omega), cond_true, Token_is k mode b f hb hlen hk hf, Option.bind_some]
    rw [toksS_succ]
    cases ht : tokS mode b f with
    | none => rfl
    | some r =>
      obtain ⟨t, e⟩ := r
      have hp := tokS_le ht
      have w2 : IntKind.wrap .i64 (((y - (d + 1) : Nat) : Int) + 1) = ((y - d : Nat) : Int) := by rw [w64 (by omega) (by omega)]; omega
      simp only [decide_eq_false (show ¬ (e : Int) < 0 by omega), cond_false, decide_eq_true (show ((y - (d + 1) : Nat) : Int) < (y : Int) by omega), cond_true, w2]
      rw [if_pos (by simp only [List.length_cons, List.length_nil]; omega)]
      exact ref_old k b mode hb hlen hk y z hy hz s x m d e (acc ++ [t]) (by omega) hp.2 (by omega) (by simp; omega)
/-- The place that the next hunk must be behind. -/
def endOf (s : List Hk) : Int := match s.getLast? with | some h => h.1 + (h.2.1.length : Int) | none => -1
theorem endOf_snoc (s : List Hk) (h : Hk) : endOf (s ++ [h]) = h.1 + (h.2.1.length : Int) := by unfold endOf; rw [List.getLast?_concat]
theorem hunk_bound {mode : Int} {b : List Int} {n f : Nat} {l : List (List Int)} {e : Nat} (h : toksS mode b n f [] = .inl (l, e)) (hf : f ≤ b.length) : l.length = n ∧ f ≤ e ∧ e ≤ b.length := by
  have key : ∀ (n f : Nat) (acc : List (List Int)), f ≤ b.length → toksS mode b n f acc = .inl (l, e) → l.length = acc.length + n ∧ f ≤ e ∧ e ≤ b.length := by
    intro n
    induction n with
    | zero => intro f acc hf h; unfold toksS at h; cases h; exact ⟨rfl, Nat.le_refl _, hf⟩
    | succ n ih =>
      intro f acc hf h
      unfold toksS at h
      split at h
      · cases h
      · rename_i t e' ht
        have hp := tokS_le ht
        obtain ⟨h1, h2, h3⟩ := ih e' _ hp.2 h
        rw [List.length_append] at h1
        simp at h1
        omega
  obtain ⟨h1, h2, h3⟩ := key n f [] hf h
  simp at h1
  exact ⟨h1, h2, h3⟩
/-- What stands behind a hunk's line. -/
def behind (mode : Int) (b : List Int) (x : Int) (y z e : Nat) : (Hk × Nat) ⊕ Nat :=
  match toksS mode b y e [] with
  | .inr p => .inr p
  | .inl (o, e1) => match toksS mode b z e1 [] with
    | .inr p => .inr p
    | .inl (n, e2) => .inl ((x, o, n), e2)
theorem ref_loop0 (k : Nat) (b : List Int) (mode : Int) (hb : ∀ x ∈ b, 0 ≤ x ∧ x ≤ 255) (hlen : b.length ≤ 1099511627776) (hk : b.length < k) : ∀ (m f : Nat) (s : List Hk), f ≤ b.length → s.length ≤ f → (∀ h ∈ s, 0 ≤ h.1 ∧ h.1 ≤ 1048576 ∧ h.2.1.length ≤ 1048576) → b.length - f < m →
    J7_0 (k + 2) m (b, mode, (f : Int), s) = some (match hunksS mode b m f (endOf s) s with
      | .inr p => .inr (0, [], (p : Int), 4)
      | .inl (s', e) => .inl (b, mode, (e : Int), s')) := by
  intro m
  induction m with
  | zero => intro f s _ _ _ h; omega
  | succ m ihm =>
    intro f s hf hs hin hm
    rw [j7_0]
    unfold F7_0 hunksS
    simp only
    rw [sign_is (k + 1) b f 64, Option.bind_some]
    by_cases c : At b f 64
    · rw [decide_eq_true c, cond_true, if_pos c, Line_is k b f hb hlen hk c.1, Option.bind_some]
      unfold stepS
      cases hl : lineS b f with
      | none => rfl
      | some r =>
        obtain ⟨x, y, z, e⟩ := r
        obtain ⟨xa, ya, za, hx, hy, hz, xb, yb, zb, ⟨r0, hr0⟩, he⟩ := (lineS_iff b f c x y z e).1 hl
        have hpos : 0 < (lineB xa ya za).length := by unfold lineB; simp
        have hle := drop_len hr0 hpos
        subst hx hy hz
        have w : IntKind.wrap .i64 ((ya : Int) + (za : Int)) = ((ya + za : Nat) : Int) := by rw [w64 (by omega) (by omega)]; rfl
        simp only [decide_eq_false (show ¬ (e : Int) < 0 by omega), beq_self_eq_true, cond_true, w]
        by_cases c2 : ya + za = 0
        · rw [decide_eq_true (show ((ya + za : Nat) : Int) = 0 by omega), if_pos (show (xa : Int) ≤ endOf s ∨ (ya : Int) + (za : Int) = 0 from .inr (by omega))]
          rfl
        · rw [decide_eq_false (show ¬ ((ya + za : Nat) : Int) = 0 by omega), beq_self_eq_true, cond_true]
          have go : ¬ ((xa : Int) ≤ endOf s) → (Option.bind (J7_2 (k + 2) (k + 2) (b, mode, (e : Int), (ya : Int), (za : Int), (0 : Int), s, ((xa : Int), (([] : List (List Int)), ([] : List (List Int)))))) fun s41 => onSum s41 (fun y42 =>
              if (y42.2.2.2.2.2.2.1.length + ([y42.2.2.2.2.2.2.2] : List Hk).length) * 56 ≤ 140737488355328 ∧ y42.2.2.2.2.2.2.1.length + ([y42.2.2.2.2.2.2.2] : List Hk).length ≤ 140737488355328 then
              J7_0 (k + 2) m (y42.1, y42.2.1, y42.2.2.1, y42.2.2.2.2.2.2.1 ++ [y42.2.2.2.2.2.2.2]) else none) (fun o57 => some (.inr o57))) =
              some (match (match behind mode b (xa : Int) ya za e with
                | .inr p => (.inr p : (List Hk × Nat) ⊕ Nat)
                | .inl (h, e) => hunksS mode b m e (h.1 + (h.2.1.length : Int)) (s ++ [h])) with
              | .inr p => .inr (0, [], (p : Int), 4)
              | .inl (s', e) => .inl (b, mode, (e : Int), s')) := by
            intro hxe
            have h2 := ref_old k b mode hb hlen hk ya za yb zb s (xa : Int) (k + 2) ya e [] (by omega) (by omega) (Nat.le_refl _) (by simp)
            rw [Nat.sub_self] at h2
            have h2' : J7_2 (k + 2) (k + 2) (b, mode, (e : Int), (ya : Int), (za : Int), (0 : Int), s, ((xa : Int), (([] : List (List Int)), ([] : List (List Int))))) = _ := h2
            rw [h2', Option.bind_some]
            unfold behind
            cases hy : toksS mode b ya e [] with
            | inr p => rfl
            | inl r =>
              obtain ⟨o, e1⟩ := r
              have g1 := hunk_bound hy (by omega)
              simp only
              cases hz : toksS mode b za e1 [] with
              | inr p => rfl
              | inl r =>
                obtain ⟨n, e2⟩ := r
                have g2 := hunk_bound hz g1.2.2
                simp only [onSum]
                rw [if_pos (by simp only [List.length_cons, List.length_nil]; omega)]
                have ih := ihm e2 (s ++ [((xa : Int), o, n)]) g2.2.2 (by rw [List.length_append]; simp; omega) (fun h hh => by
                  rcases List.mem_append.1 hh with hh | hh
                  · exact hin h hh
                  · simp at hh
                    subst hh
                    exact ⟨by show (0 : Int) ≤ (xa : Int); omega, by show (xa : Int) ≤ 1048576; omega, by show o.length ≤ 1048576; omega⟩) (by omega)
                rw [endOf_snoc] at ih
                exact ih
          by_cases c3 : s.length = 0
          · have hnil : s = [] := List.eq_nil_of_length_eq_zero c3
            rw [decide_eq_false (show ¬ (s.length : Int) > 0 by omega), show (false == true) = false from rfl, cond_false]
            have hx : ¬ (xa : Int) ≤ endOf s := by rw [hnil]; show ¬ (xa : Int) ≤ -1; omega
            rw [if_neg (show ¬ ((xa : Int) ≤ endOf s ∨ (ya : Int) + (za : Int) = 0) by omega), Int.toNat_natCast, Int.toNat_natCast]
            exact go hx
          · obtain ⟨s0, h0, rfl⟩ : ∃ s0 h0, s = s0 ++ [h0] := ⟨s.dropLast, s.getLast (fun h => c3 (by rw [h]; rfl)), (List.dropLast_concat_getLast _).symm⟩
            have hh0 := hin h0 (by simp)
            have hgl : (s0 ++ [h0]).length = s0.length + 1 := by simp
            have wl : IntKind.wrap .i64 (((s0 ++ [h0]).length : Int) - 1) = (s0.length : Int) := by rw [w64 (by omega) (by omega)]; omega
            have hg : (s0 ++ [h0]).getD s0.length ((0 : Int), (([] : List (List Int)), ([] : List (List Int)))) = h0 := by
              rw [List.getD_eq_getElem?_getD, List.getElem?_append_right (Nat.le_refl _)]; simp
            have w3 : IntKind.wrap .i64 ((xa : Int) - h0.1) = (xa : Int) - h0.1 := w64 (by omega) (by omega)
            rw [decide_eq_true (show ((s0 ++ [h0]).length : Int) > 0 by omega), beq_self_eq_true, cond_true, wl, if_pos ⟨by omega, by omega⟩, if_pos ⟨by omega, by omega⟩, Int.toNat_natCast, hg, w3]
            have he := endOf_snoc s0 h0
            by_cases c4 : (xa : Int) - h0.1 ≤ (h0.2.1.length : Int)
            · rw [decide_eq_true c4, cond_true, if_pos (show (xa : Int) ≤ endOf (s0 ++ [h0]) ∨ (ya : Int) + (za : Int) = 0 from .inl (by rw [he]; omega))]
            · rw [decide_eq_false c4, cond_false]
              have hx : ¬ (xa : Int) ≤ endOf (s0 ++ [h0]) := by rw [he]; omega
              rw [if_neg (show ¬ ((xa : Int) ≤ endOf (s0 ++ [h0]) ∨ (ya : Int) + (za : Int) = 0) by omega), Int.toNat_natCast, Int.toNat_natCast]
              exact go hx
    · rw [decide_eq_false c, cond_false, if_neg c]
theorem hunksS_le (mode : Int) (b : List Int) : ∀ (m f : Nat) (en : Int) (acc s : List Hk) (e : Nat), f ≤ b.length → hunksS mode b m f en acc = .inl (s, e) → e ≤ b.length := by
  intro m
  induction m with
  | zero => intro f en acc s e hf h; unfold hunksS at h; cases h
  | succ m ih =>
    intro f en acc s e hf h
    unfold hunksS at h
    split at h
    · rename_i h0
      cases hs : stepS mode b f en with
      | inr p => rw [hs] at h; cases h
      | inl r =>
        obtain ⟨hk, e'⟩ := r
        rw [hs] at h
        obtain ⟨_, ⟨r, hr⟩, rfl⟩ := (stepS_iff mode b f en h0 hk e').1 hs
        exact ih _ _ _ _ _ (drop_len hr (hunkB_pos hk)) h
    · cases h; exact hf
theorem hunksS_fuelR (mode : Int) (b : List Int) : ∀ (m1 m2 f : Nat) (en : Int) (acc : List Hk), b.length - f < m1 → b.length - f < m2 → hunksS mode b m1 f en acc = hunksS mode b m2 f en acc := by
  intro m1
  induction m1 with
  | zero => intro m2 f en acc h; omega
  | succ m1 ih =>
    intro m2 f en acc h1 h2
    cases m2 with
    | zero => omega
    | succ m2 =>
      unfold hunksS
      by_cases h0 : At b f 64
      · rw [if_pos h0, if_pos h0]
        cases hs : stepS mode b f en with
        | inr p => rfl
        | inl r =>
          obtain ⟨h, e⟩ := r
          obtain ⟨_, ⟨r, hr⟩, rfl⟩ := (stepS_iff mode b f en h0 h e).1 hs
          have hp := hunkB_pos h
          have := drop_len hr hp
          exact ih m2 _ _ _ (by omega) (by omega)
      · rw [if_neg h0, if_neg h0]
/-- THE REFERENCE'S DECODE. -/
theorem RefDecode_is (k : Nat) (b : List Int) (hb : ∀ x ∈ b, 0 ≤ x ∧ x ≤ 255) (hlen : b.length ≤ 1099511627776) (hk : b.length + 3 < k) :
    R7 (k + 3) b = some (match decS b with
      | .inl (mode, s) => (mode, s, 0, 0)
      | .inr p => (0, [], (p : Int), 4)) := by
  rw [u7]
  unfold r7
  simp only
  obtain ⟨at', e0, e1⟩ := ref_head (k + 1) b hb hlen (k - 1)
  rw [show k - 1 + 3 = k + 2 by omega] at e0
  have e0' : J7_1 (k + 2) (k + 2) (b, -1, 0, 0) = _ := e0
  rw [e0', Option.bind_some]
  unfold decS
  cases hf : firstS b with
  | none => rfl
  | some mode =>
    have h16 := e1 mode hf
    subst h16
    obtain ⟨hm, r0, hr0⟩ := (first_iff b mode).1 hf
    have hl16 : 16 ≤ b.length := by
      have := congrArg List.length hr0
      rw [List.length_append, hd_len] at this
      omega
    simp only [onSum]
    rw [decide_eq_false (show ¬ mode < 0 by omega), cond_false]
    have e2 : J7_0 (k + 2) (k + 2) (b, mode, 16, []) = _ := ref_loop0 k b mode hb hlen (by omega) (k + 2) 16 [] hl16 (by simp) (by simp) (by omega)
    have hfu : hunksS mode b (k + 2) 16 (endOf []) [] = hunksS mode b (b.length + 1) 16 (-1) [] := by
      have : endOf [] = -1 := rfl
      rw [this]
      exact hunksS_fuelR mode b (k + 2) (b.length + 1) 16 (-1) [] (by omega) (by omega)
    rw [e2, hfu, Option.bind_some]
    cases hh : hunksS mode b (b.length + 1) 16 (-1) [] with
    | inr p => rfl
    | inl r =>
      obtain ⟨s, f⟩ := r
      have hle := hunksS_le mode b _ _ _ _ _ _ hl16 hh
      unfold restS finS
      simp only [onSum]
      rw [sign_is (k + 1) b f 46, Option.bind_some]
      have w1 : IntKind.wrap .i64 ((f : Int) + 1) = ((f + 1 : Nat) : Int) := by rw [w64 (by omega) (by omega)]; rfl
      have w2 : IntKind.wrap .i64 ((f : Int) + 2) = ((f + 2 : Nat) : Int) := by rw [w64 (by omega) (by omega)]; rfl
      rw [w1, w2, sign_is (k + 1) b (f + 1) 10]
      have tt := take_two b f 46 10
      by_cases q1 : At b f 46
      · rw [decide_eq_true q1]
        simp only [Bool.not_true, beq_self_eq_true, cond_true, Option.bind_some]
        by_cases q2 : At b (f + 1) 10
        · rw [decide_eq_true q2, if_pos (tt.2 ⟨q1, q2⟩)]
          simp only [Bool.not_true, cond_false]
          by_cases q3 : f + 2 < b.length
          · rw [decide_eq_true (show ((f + 2 : Nat) : Int) < (b.length : Int) by omega), if_pos q3]
            rfl
          · rw [decide_eq_false (show ¬ ((f + 2 : Nat) : Int) < (b.length : Int) by omega), if_neg q3]
            rfl
        · rw [decide_eq_false q2, if_neg (fun h => q2 (tt.1 h).2)]
          rfl
      · rw [decide_eq_false q1, if_neg (fun h => q1 (tt.1 h).1)]
        rfl
end Go.Proofs.YtakjaafenhdpjaaGreat.ETopAnyBytes
