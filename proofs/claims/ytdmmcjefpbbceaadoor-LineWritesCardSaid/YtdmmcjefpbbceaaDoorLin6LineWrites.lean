import Derived.Test.YtdmmcjefpbbceaaDoorLin5LineWrites
namespace Go.Proofs.YtdmmcjefpbbceaaDoor.ELineWrites
open Go Go.Proofs.YtdmmcjefpbbceaaDoor.AE Go.Proofs.YtdmmcjefpbbceaaDoor
set_option linter.unusedVariables false
set_option linter.unusedSimpArgs false
/-! A word more, a word less. -/
def Nb (l : List UInt8) : Prop := (32 : UInt8) ∉ l
theorem spl_nb : ∀ (l cur : List UInt8), Nb cur → ∀ x ∈ LineX.spl l cur, Nb x
  | [], cur, h, x, hx => by
    simp [LineX.spl] at hx
    subst hx; exact h
  | c :: l, cur, h, x, hx => by
    unfold LineX.spl at hx
    split at hx
    · rcases List.mem_cons.1 hx with rfl | hx
      · exact h
      · exact spl_nb l [] (by unfold Nb; simp) x hx
    · rename_i hc
      refine spl_nb l (cur ++ [c]) ?_ x hx
      unfold Nb at *
      intro hm
      rcases List.mem_append.1 hm with hm | hm
      · exact h hm
      · simp at hm
        subst hm
        exact hc (by simp)
theorem spl_cat (r : List UInt8) : ∀ (l cur : List UInt8), LineX.spl (l ++ 32 :: r) cur = LineX.spl l cur ++ LineX.spl r []
  | [], cur => by
    show LineX.spl (32 :: r) cur = _
    simp [LineX.spl]
  | c :: l, cur => by
    show LineX.spl (c :: (l ++ 32 :: r)) cur = LineX.spl (c :: l) cur ++ _
    have e1 : LineX.spl (c :: (l ++ 32 :: r)) cur = if c == 32 then cur :: LineX.spl (l ++ 32 :: r) [] else LineX.spl (l ++ 32 :: r) (cur ++ [c]) := rfl
    have e2 : LineX.spl (c :: l) cur = if c == 32 then cur :: LineX.spl l [] else LineX.spl l (cur ++ [c]) := rfl
    rw [e1, e2, spl_cat r l [], spl_cat r l (cur ++ [c])]
    split <;> rfl
theorem spl_one : ∀ (l cur : List UInt8), Nb l → LineX.spl l cur = [cur ++ l]
  | [], cur, _ => by simp [LineX.spl]
  | c :: l, cur, h => by
    unfold Nb at h
    have hc : c ≠ 32 := fun e => h (by simp [e])
    have e2 : LineX.spl (c :: l) cur = if c == 32 then cur :: LineX.spl l [] else LineX.spl l (cur ++ [c]) := rfl
    rw [e2, if_neg (by simpa using hc), spl_one l (cur ++ [c]) (fun hm => h (by simp [hm]))]
    simp
theorem spl_joinL : ∀ (l : List (List UInt8)), l ≠ [] → (∀ x ∈ l, Nb x) → LineX.spl (LineX.joinL l) [] = l
  | [], h, _ => absurd rfl h
  | [x], _, h => by rw [LineX.joinL, spl_one x [] (h x (by simp))]; simp
  | x :: y :: r, _, h => by
    rw [LineX.joinL, spl_cat, spl_one x [] (h x (by simp)), spl_joinL (y :: r) (by simp) fun z hz => h z (by simp [hz])]
    simp
theorem joinL_snoc : ∀ (l : List (List UInt8)) (z : List UInt8), l ≠ [] → LineX.joinL (l ++ [z]) = LineX.joinL l ++ 32 :: z
  | [], z, h => absurd rfl h
  | [x], z, _ => by simp [LineX.joinL]
  | x :: y :: r, z, _ => by
    have ih := joinL_snoc (y :: r) z (by simp)
    show LineX.joinL (x :: y :: (r ++ [z])) = _
    rw [LineX.joinL]
    have e : LineX.joinL (y :: (r ++ [z])) = LineX.joinL (y :: r) ++ 32 :: z := ih
    rw [e, LineX.joinL]
    simp
def toL (l : List ByteArray) : List (List UInt8) := l.map fun s => s.data.toList
def ofL (l : List (List UInt8)) : List ByteArray := l.map fun l => ⟨l.toArray⟩
theorem ofL_toL (l : List ByteArray) : ofL (toL l) = l := by
  unfold ofL toL
  rw [List.map_map]
  conv => rhs; rw [← List.map_id l]
  apply List.map_congr_left
  intro a _
  simp
theorem toL_ofL (l : List (List UInt8)) : toL (ofL l) = l := by
  unfold ofL toL
  rw [List.map_map]
  conv => rhs; rw [← List.map_id l]
  apply List.map_congr_left
  intro a _
  simp
theorem split_of (s : ByteArray) (l : List (List UInt8)) (h : s.data.toList = LineX.joinL l) (hl : l ≠ []) (hn : ∀ x ∈ l, Nb x) : LineX.splitS s = ofL l := by
  unfold LineX.splitS ofL
  rw [h, spl_joinL l hl hn]
/-- The words of a text, and its bytes. -/
theorem split_bytes (s : ByteArray) : s.data.toList = LineX.joinL (toL (LineX.splitS s)) ∧ ∀ x ∈ toL (LineX.splitS s), Nb x := by
  have e : toL (LineX.splitS s) = LineX.spl s.data.toList [] := toL_ofL _
  rw [e, spl_join]
  exact ⟨by simp, spl_nb _ [] (by unfold Nb; simp)⟩
theorem split_more (s more : ByteArray) : LineX.splitS (s ++ ⟨#[32]⟩ ++ more) = LineX.splitS s ++ LineX.splitS more := by
  unfold LineX.splitS
  have e : (s ++ ⟨#[32]⟩ ++ more).data.toList = s.data.toList ++ 32 :: more.data.toList := by
    simp [ByteArray.data_append]
  rw [e, spl_cat, List.map_append]
theorem loop_app : ∀ (a b : List ByteArray) (want : List Int) (at' : Nat) (c c' : Cmd), loopS a want at' c = .inl c' → a.length ≤ want.length → loopS (a ++ b) want at' c = loopS b (want.drop a.length) (at' + tot a) c'
  | [], b, want, at', c, c', h, _ => by unfold loopS at h; cases h; simp [tot]
  | w :: a, b, [], at', c, c', h, hl => by simp at hl
  | w :: a, b, n :: want, at', c, c', h, hl => by
    unfold loopS at h
    split at h
    · cases h
    · rename_i c2 hx
      have ih := loop_app a b want (at' + (w.size + 1)) c2 c' h (by simpa using hl)
      have e0 : loopS (w :: a ++ b) (n :: want) at' c = match takeS n w c with
        | none => .inr at'
        | some c' => loopS (a ++ b) want (at' + (w.size + 1)) c' := rfl
      rw [e0, hx]
      simp only
      rw [ih, tot_cons, List.length_cons, List.drop_succ_cons, Nat.add_assoc]
theorem loop_pre : ∀ (a b : List ByteArray) (want : List Int) (at' : Nat) (c d : Cmd), loopS (a ++ b) want at' c = .inl d → ∃ c', loopS a want at' c = .inl c'
  | [], b, want, at', c, d, _ => ⟨c, by unfold loopS; rfl⟩
  | w :: a, b, [], at', c, d, h => by
    show ∃ c', _
    have h' : loopS (w :: (a ++ b)) [] at' c = .inl d := h
    unfold loopS at h'
    cases h'
  | w :: a, b, n :: want, at', c, d, h => by
    have h' : loopS (w :: (a ++ b)) (n :: want) at' c = .inl d := h
    unfold loopS at h'
    split at h'
    · cases h'
    · rename_i c2 hx
      obtain ⟨c3, h3⟩ := loop_pre a b want _ c2 d h'
      refine ⟨c3, ?_⟩
      unfold loopS
      rw [hx]
      exact h3
theorem formS_last (n : Int) : ∃ pre, formS n = pre ++ [6] := by
  unfold formS
  split
  · exact ⟨[0, 1, 2, 3, 5], rfl⟩
  · split
    · exact ⟨[0, 4, 5], rfl⟩
    · exact ⟨[5], rfl⟩
theorem bytS_empty : bytS ⟨#[]⟩ = none := by
  unfold bytS
  have : strEq (⟨#[]⟩ : ByteArray) ⟨#[45]⟩ = false := rfl
  rw [this]
  rfl
theorem loop_le : ∀ (ws : List ByteArray) (want : List Int) (a : Nat) (c d : Cmd), loopS ws want a c = .inl d → ws.length ≤ want.length := by
  intro ws
  induction ws with
  | nil => intro _ _ _ _ _; simp
  | cons w ws ih =>
    intro want a c d h
    cases want with
    | nil => unfold loopS at h; cases h
    | cons n want =>
      unfold loopS at h
      split at h
      · cases h
      · have := ih want _ _ _ h
        simp
        exact this
theorem parse_kind {s : ByteArray} {c : Cmd} {at' : Int} (h : parseS s = (c, at', 0)) : kindS (nameS c.1) = c.1 := by
  unfold parseS at h
  split at h
  · cases h
  · rename_i w ws hw
    split at h
    · cases h
    · rename_i hk
      split at h
      · cases h
      · rename_i d hl
        split at h
        · cases h
        · rename_i hlen
          cases h
          have hle := loop_le _ _ _ _ _ hl
          obtain ⟨l1, l2, l3⟩ := loop_back ws (formS (kindS w)) _ _ c (formS_mem _) (formS_nodup _) (by omega) hl
          have l2' : c.1 = kindS w := l2
          rw [l2', kindS_back hk]
/-- What is told of a text that is none. -/
theorem ends {s : ByteArray} {c : Cmd} (h : parseS s = (c, 0, 0)) (more : ByteArray) :
    ∃ (xs : List (List UInt8)) (z : List UInt8), xs ≠ [] ∧ s.data.toList = LineX.joinL xs ++ 32 :: z ∧ Nb z ∧
      parseS (s ++ ⟨#[32]⟩ ++ more) = (cmd0, ((s.size + 1 : Nat) : Int), 4) ∧
      (∀ t : ByteArray, t.data.toList = LineX.joinL xs → parseS t = (cmd0, (t.size : Int), 4)) ∧
      (∀ t : ByteArray, t.data.toList = LineX.joinL xs ++ [32] → parseS t = (cmd0, (t.size : Int), 4)) := by
  obtain ⟨_, hk, _, ws, hw, hl, hloop⟩ := parse_some h rfl
  have hf := formS_len c.1
  obtain ⟨hb, hnb⟩ := split_bytes s
  have htot := split_tot s
  rw [hw] at hb hnb htot
  have hkc : kindS (nameS c.1) = c.1 := parse_kind h
  -- the last word apart
  have hwne : ws ≠ [] := by intro e; rw [e] at hl; simp at hl; omega
  obtain ⟨us, zb, rfl⟩ : ∃ us zb, ws = us ++ [zb] := ⟨ws.dropLast, ws.getLast hwne, (List.dropLast_concat_getLast hwne).symm⟩
  have hul : us.length + 1 = (formS c.1).length := by simpa using hl
  have hx : toL (nameS c.1 :: (us ++ [zb])) = toL (nameS c.1 :: us) ++ [zb.data.toList] := by unfold toL; simp
  rw [hx] at hb hnb
  have hne : toL (nameS c.1 :: us) ≠ [] := by unfold toL; simp
  rw [joinL_snoc _ _ hne] at hb
  obtain ⟨c', hc'⟩ := loop_pre us [zb] _ _ _ _ hloop
  obtain ⟨pre, hpre⟩ := formS_last c.1
  have hprel : pre.length = us.length := by rw [hpre] at hul; simp at hul; omega
  refine ⟨toL (nameS c.1 :: us), zb.data.toList, hne, hb, hnb _ (by simp), ?_, fun t ht => ?_, fun t ht => ?_⟩
  · obtain ⟨m, ms, hm⟩ := split_ne more
    unfold parseS
    rw [split_more, hw, hm]
    simp only [List.cons_append]
    rw [hkc, if_neg hk]
    have e : loopS (us ++ [zb] ++ m :: ms) (formS c.1) ((nameS c.1).size + 1) (c.1, 0, 0, 0, 0, 0, [], []) = .inr (s.size + 1) := by
      rw [loop_app (us ++ [zb]) (m :: ms) (formS c.1) _ _ c hloop (by omega), hl, List.drop_length]
      unfold loopS
      rw [tot_cons] at htot
      rw [← htot]
    rw [e]
  · have hs := split_of t (toL (nameS c.1 :: us)) ht hne (fun x hx => hnb x (by simp [hx]))
    rw [ofL_toL] at hs
    unfold parseS
    rw [hs]
    simp only
    rw [hkc, if_neg hk, hc']
    simp only
    rw [if_pos (by omega)]
  · have hs := split_of t (toL (nameS c.1 :: us) ++ [[]]) (by rw [ht, joinL_snoc _ _ hne]) (by simp) (fun x hx => by
      rcases List.mem_append.1 hx with hx | hx
      · exact hnb x (by simp [hx])
      · simp at hx; subst hx; unfold Nb; simp)
    have e1 : ofL (toL (nameS c.1 :: us) ++ [[]]) = nameS c.1 :: (us ++ [⟨#[]⟩]) := by
      have : ofL (toL (nameS c.1 :: us) ++ [[]]) = ofL (toL (nameS c.1 :: us)) ++ [⟨#[]⟩] := by unfold ofL; rw [List.map_append]; rfl
      rw [this, ofL_toL]
      rfl
    have ht2 := split_tot t
    rw [hs, e1] at ht2
    rw [e1] at hs
    unfold parseS
    rw [hs]
    simp only
    rw [hkc, if_neg hk]
    have e : loopS (us ++ [⟨#[]⟩]) (formS c.1) ((nameS c.1).size + 1) (c.1, 0, 0, 0, 0, 0, [], []) = .inr t.size := by
      rw [loop_app us [⟨#[]⟩] (formS c.1) _ _ c' hc' (by omega), hpre, ← hprel, List.drop_left]
      unfold loopS takeS
      rw [if_neg (by decide), if_neg (by decide), if_neg (by decide), if_neg (by decide), if_neg (by decide), if_neg (by decide), bytS_empty]
      simp only [Option.map_none]
      have : tot (nameS c.1 :: (us ++ [⟨#[]⟩])) = (nameS c.1).size + 1 + tot us + 1 := by
        rw [tot_cons]
        have : tot (us ++ [(⟨#[]⟩ : ByteArray)]) = tot us + 1 := by
          unfold tot
          rw [List.map_append, List.sum_append]
          rfl
        rw [this]
        omega
      rw [this] at ht2
      congr 1
      omega
    rw [e]
end Go.Proofs.YtdmmcjefpbbceaaDoor.ELineWrites
