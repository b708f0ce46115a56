import Derived.Test.YtakjaafenhdpjaaGreatPat4TopAnyBytes
import Derived.Test.YtakjaafenhdpjaaGreatDecTopAnyBytes
import Derived.Test.YtakjaafenhdpjaaGreatRefDecTopAnyBytes
namespace Go.Proofs.YtakjaafenhdpjaaGreat.ETopAnyBytes
open Go Go.Proofs.YtakjaafenhdpjaaGreat.AE Go.Proofs.YtakjaafenhdpjaaGreat
set_option linter.unusedVariables false
set_option linter.unusedSimpArgs false
set_option maxRecDepth 100000 in
theorem awake : R4 4000 () = some true := by
  show evalF E 4000 4 () = _
  rw [← evalK_eq]
  kernel_rfl
/-! What a script that was read is. -/
theorem wt_cons (t : List Int) (l : List (List Int)) : wt (t :: l) = 1 + t.length + wt l := by unfold wt; rw [List.flatten_cons, List.length_append, List.length_cons]; omega
theorem toks_wt : ∀ (l : List (List Int)), wt l ≤ (toksB l).length
  | [] => Nat.zero_le _
  | t :: l => by
    have h1 := toks_wt l
    have h2 : (toksB (t :: l)).length = (tokB t).length + (toksB l).length := by simp [toksB]
    have h3 : t.length + 1 ≤ (tokB t).length := by unfold tokB; rw [List.length_append, List.length_cons, List.length_append, List.length_singleton]; omega
    rw [h2, wt_cons]; omega
theorem hunks_wt : ∀ (s : List Hk), swt s ≤ (hunksB s).length
  | [] => Nat.zero_le _
  | h :: s => by
    have h1 := hunks_wt s
    have e : (hunksB (h :: s)).length = (hunkB h).length + (hunksB s).length := by simp [hunksB]
    have e2 : (hunkB h).length = (lineB h.1.toNat h.2.1.length h.2.2.length).length + ((toksB h.2.1).length + (toksB h.2.2).length) := by unfold hunkB; simp
    have e3 : 1 ≤ (lineB h.1.toNat h.2.1.length h.2.2.length).length := by unfold lineB; rw [List.length_cons]; omega
    have t1 := toks_wt h.2.1
    have t2 := toks_wt h.2.2
    rw [swt_cons, e]; omega
theorem toks_sub : ∀ (l : List (List Int)) (t : List Int), t ∈ l → ∀ x ∈ t, x ∈ toksB l
  | [], t, h => by cases h
  | u :: l, t, h => fun x hx => by
    have e : toksB (u :: l) = tokB u ++ toksB l := by simp [toksB]
    rw [e, List.mem_append]
    rcases List.mem_cons.1 h with rfl | h
    · left; unfold tokB; simp [hx]
    · right; exact toks_sub l t h x hx
theorem hunks_by {b : List Int} (hb : ∀ x ∈ b, 0 ≤ x ∧ x ≤ 255) : ∀ (s : List Hk), (∀ x ∈ hunksB s, x ∈ b) → ByS s
  | [], _ => fun h hh => by cases hh
  | g :: s, hs => fun h hh => by
    have e : hunksB (g :: s) = hunkB g ++ hunksB s := by simp [hunksB]
    rw [e] at hs
    rcases List.mem_cons.1 hh with rfl | hh
    · have e2 : hunkB h = lineB h.1.toNat h.2.1.length h.2.2.length ++ (toksB h.2.1 ++ toksB h.2.2) := rfl
      rw [e2] at hs
      exact ⟨fun t ht x hx => hb x (hs x (by simp [toks_sub _ t ht x hx])), fun t ht x hx => hb x (hs x (by simp [toks_sub _ t ht x hx]))⟩
    · exact hunks_by hb s (fun x hx => hs x (List.mem_append_right _ hx)) h hh
theorem isTok_pos {mode : Int} (hm : mode = 0 ∨ mode = 1) {t : List Int} (h : isTok mode t = true) : t.length ≠ 0 := by
  unfold isTok at h
  rcases hm with rfl | rfl
  · simp at h; omega
  · simp at h
    obtain ⟨h1, _⟩ := h
    intro h0
    have := List.eq_nil_of_length_eq_zero h0
    subst this
    simp at h1
theorem hunks_good {mode : Int} (hm : mode = 0 ∨ mode = 1) : ∀ (s : List Hk) (en : Int), hunksOk mode en s → goodB en s = true
  | [], _, _ => rfl
  | h :: s, en, hs => by
    obtain ⟨⟨h1, h2, h3, h4, h5, h6⟩, hr⟩ := hs
    have ih := hunks_good hm s _ hr
    unfold goodB
    simp only [Bool.and_eq_true, decide_eq_true_eq, List.all_eq_true]
    exact ⟨h1, h3, by omega, fun t ht => isTok_pos hm (h5.2 t ht).1, fun t ht => isTok_pos hm (h6.2 t ht).1, ih⟩
theorem hunks_at {mode : Int} : ∀ (s : List Hk) (en : Int), hunksOk mode en s → ∀ h ∈ s, 0 ≤ h.1 ∧ h.1 ≤ 1048576
  | [], _, _ => fun h hh => by cases hh
  | g :: s, en, hs => fun h hh => by
    obtain ⟨⟨h1, h2, h3, _⟩, hr⟩ := hs
    rcases List.mem_cons.1 hh with rfl | hh
    · exact ⟨h2, h3⟩
    · exact hunks_at s _ hr h hh
/-- A script as it is read: its weight, its bytes. -/
theorem dec_facts {b : List Int} (hb : ∀ x ∈ b, 0 ≤ x ∧ x ≤ 255) {mode : Int} {s : List Hk} (h : decS b = .inl (mode, s)) :
    (mode = 0 ∨ mode = 1) ∧ swt s ≤ b.length ∧ ByS s ∧ goodB (-1) s = true ∧ ∀ h ∈ s, -1 ≤ h.1 ∧ h.1 ≤ 1048576 := by
  obtain ⟨hm, hok, he⟩ := dec_some b mode s h
  have e : encS mode s = hd mode ++ (hunksB s ++ [46, 10]) := rfl
  have h1 := hunks_wt s
  have hl := congrArg List.length he
  rw [e, List.length_append, List.length_append] at hl
  refine ⟨hm, by omega, hunks_by hb s (fun x hx => ?_), hunks_good hm s _ hok, fun g hg => by have := hunks_at s _ hok g hg; omega⟩
  rw [he, e]
  simp [hx]
theorem lines_wt (mode : Int) : ∀ (l cur : List Int), wt (linesS mode cur l) ≤ cur.length + 2 * l.length + 1 ∧ (cur = [] → wt (linesS mode cur l) ≤ 2 * l.length)
  | [], cur => by
    unfold linesS
    split
    · exact ⟨Nat.zero_le _, fun _ => Nat.zero_le _⟩
    · rename_i h
      exact ⟨by rw [wt_cons]; have : wt ([] : List (List Int)) = 0 := rfl; omega, fun h0 => absurd h0 h⟩
  | x :: l, cur => by
    obtain ⟨_, i2⟩ := lines_wt mode l []
    obtain ⟨i3, _⟩ := lines_wt mode l (cur ++ [x])
    have i2 := i2 rfl
    unfold linesS
    split
    · rw [wt_cons, List.length_append, List.length_singleton, List.length_cons]
      exact ⟨by omega, fun h0 => by subst h0; simp only [List.length_nil]; omega⟩
    · rw [List.length_append, List.length_singleton] at i3
      rw [List.length_cons]
      exact ⟨by omega, fun h0 => by subst h0; simp only [List.length_nil] at i3; omega⟩
theorem lines_by (mode : Int) : ∀ (l cur : List Int), (∀ x ∈ l, 0 ≤ x ∧ x ≤ 255) → (∀ x ∈ cur, 0 ≤ x ∧ x ≤ 255) → By (linesS mode cur l)
  | [], cur, _, hc => by
    unfold linesS
    split
    · exact fun t ht => by cases ht
    · exact fun t ht => by rw [List.mem_singleton.1 ht]; exact hc
  | x :: l, cur, hl, hc => by
    have hx := hl x (List.mem_cons_self ..)
    have hl' : ∀ y ∈ l, 0 ≤ y ∧ y ≤ 255 := fun y hy => hl y (List.mem_cons_of_mem _ hy)
    have hcx : ∀ y ∈ cur ++ [x], 0 ≤ y ∧ y ≤ 255 := fun y hy => by
      rcases List.mem_append.1 hy with hy | hy
      · exact hc y hy
      · rw [List.mem_singleton.1 hy]; exact hx
    unfold linesS
    split
    · intro t ht
      rcases List.mem_cons.1 ht with rfl | ht
      · exact hcx
      · exact lines_by mode l [] hl' (fun y hy => by cases hy) t ht
    · exact lines_by mode l (cur ++ [x]) hl' hcx
theorem cut_facts (mode : Int) {a : List Int} (ha : ∀ x ∈ a, 0 ≤ x ∧ x ≤ 255) : wt (cutT mode a) ≤ 2 * a.length ∧ By (cutT mode a) :=
  ⟨(lines_wt mode a []).2 rfl, lines_by mode a [] ha (fun y hy => by cases hy)⟩
def carS (mode : Int) (s : List Hk) (a : List Int) : List Int × Int := ((resA (cutT mode a) s).1.flatten, (resA (cutT mode a) s).2)
theorem resA_err (a : List (List Int)) (s : List Hk) (h : (resA a s).2 ≠ 0) : (resA a s).1 = [] := by
  unfold resA at h ⊢
  split at h
  · cases he : appL a s 0 [] with
    | none => simp_all
    | some p => rw [he] at h; exact absurd rfl h
  · simp_all
theorem carry_is (k : Nat) (mode : Int) (hm : mode = 0 ∨ mode = 1) (s : List Hk) (a : List Int) (ha : ∀ x ∈ a, 0 ≤ x ∧ x ≤ 255) (hb : ByS s) (hk : 2 * a.length + swt s < k) (hW : 2 * a.length + swt s ≤ 1099511627776) :
    R12 (k + 5) mode s a = some (carS mode s a) := by
  obtain ⟨c1, c2⟩ := cut_facts mode ha
  have hw := resA_wt (cutT mode a) s
  have hl := wt_len (resA (cutT mode a) s).1
  rw [u12]
  unfold r12 carS
  rw [Cut_is (k + 1) mode a ha (by omega) (by omega), if_pos hm, Option.bind_some]
  simp only [decide_true, Bool.not_true, cond_false]
  rw [Apply_is k (cutT mode a) s (by omega) (by omega) c2 hb, Option.bind_some]
  by_cases he : (resA (cutT mode a) s).2 = 0
  · simp only [decide_eq_true he, Bool.not_true, cond_false]
    rw [Join_is (k + 3) _ (by omega) (by omega) (by omega), Option.bind_some, he]
  · simp only [decide_eq_false he, Bool.not_false, cond_true]
    rw [resA_err _ _ he]
    rfl
def appP (b a : List Int) : List Int × Int × Int := match decS b with
  | .inl (mode, s) => ((carS mode s a).1, 0, (carS mode s a).2)
  | .inr p => ([], (p : Int), 4)
def undP (b a : List Int) : List Int × Int × Int := match decS b with
  | .inl (mode, s) => if (resI s).2 = 0 then ((carS mode (resI s).1 a).1, 0, (carS mode (resI s).1 a).2) else ([], 0, (resI s).2)
  | .inr p => ([], (p : Int), 4)
theorem PApply_is (b a : List Int) (hb : ∀ x ∈ b, 0 ≤ x ∧ x ≤ 255) (ha : ∀ x ∈ a, 0 ≤ x ∧ x ≤ 255) (lb : b.length ≤ 400) (la : a.length ≤ 1000) : R5 4000 b a = some (appP b a) := by
  rw [u5]
  unfold r5 appP
  rw [Decode_is 3993 b hb (by omega) (by omega), Option.bind_some]
  cases hd : decS b with
  | inr p => rfl
  | inl x =>
    obtain ⟨mode, s⟩ := x
    obtain ⟨hm, hw, hby, hg, hat⟩ := dec_facts hb hd
    simp only [decide_true, Bool.not_true, cond_false]
    rw [carry_is 3994 mode hm s a ha hby (by omega) (by omega), Option.bind_some]
theorem resI_facts (s : List Hk) (hz : swt s ≤ 1099511627776) (hby : ByS s) (hat : ∀ h ∈ s, -1 ≤ h.1 ∧ h.1 ≤ 1048576) : swt (resI s).1 ≤ swt s ∧ ByS (resI s).1 ∧ ∀ h ∈ (resI s).1, -9223372036854775808 ≤ h.1 ∧ h.1 ≤ 9223372036854775807 := by
  have nil : swt ([] : List Hk) ≤ swt s ∧ ByS [] ∧ ∀ h ∈ ([] : List Hk), -9223372036854775808 ≤ h.1 ∧ h.1 ≤ 9223372036854775807 := ⟨Nat.zero_le _, (fun h hh => by cases hh), (fun h hh => by cases hh)⟩
  unfold resI
  split
  · cases h : invL s 0 with
    | none => exact nil
    | some t =>
      obtain ⟨e1, e2, e3⟩ := invL_facts s 0 t h
      refine ⟨by show swt t ≤ _; omega, e2 hby, fun g hg => ?_⟩
      have := e3 1099511627776 (by omega) (fun x hx => (hat x hx).1) (by omega) g hg
      omega
  · exact nil
theorem PUndo_is (b a : List Int) (hb : ∀ x ∈ b, 0 ≤ x ∧ x ≤ 255) (ha : ∀ x ∈ a, 0 ≤ x ∧ x ≤ 255) (lb : b.length ≤ 400) (la : a.length ≤ 1000) : R6 4000 b a = some (undP b a) := by
  rw [u6]
  unfold r6 undP
  rw [Decode_is 3993 b hb (by omega) (by omega), Option.bind_some]
  cases hd : decS b with
  | inr p => rfl
  | inl x =>
    obtain ⟨mode, s⟩ := x
    obtain ⟨hm, hw, hby, hg, hat⟩ := dec_facts hb hd
    obtain ⟨r1, r2, r3⟩ := resI_facts s (by omega) hby hat
    simp only [decide_true, Bool.not_true, cond_false]
    rw [Invert_is 3995 s (by omega) (by omega) hat, Option.bind_some]
    by_cases he : (resI s).2 = 0
    · simp only [decide_eq_true he, Bool.not_true, cond_false, if_pos he]
      rw [carry_is 3994 mode hm (resI s).1 a ha r2 (by omega) (by omega), Option.bind_some]
    · simp only [decide_eq_false he, Bool.not_false, cond_true, if_neg he]

/-! Done, and undone. -/
theorem appL_ext (a : List (List Int)) : ∀ (s : List Hk) (i : Nat) (acc : List (List Int)) (i1 : Nat) (acc1 : List (List Int)), appL a s i acc = some (i1, acc1) → ∃ q, acc1 = acc ++ q
  | [], i, acc, i1, acc1, h => by cases h; exact ⟨[], by simp⟩
  | h :: s, i, acc, i1, acc1, hr => by
    unfold appL at hr
    split at hr
    · obtain ⟨q, rfl⟩ := appL_ext a s _ _ i1 acc1 hr
      exact ⟨_, by rw [List.append_assoc, List.append_assoc]⟩
    · cases hr
theorem appL_all (P : List Int → Prop) (a : List (List Int)) (ha : ∀ t ∈ a, P t) : ∀ (s : List Hk) (i : Nat) (acc : List (List Int)) (i1 : Nat) (acc1 : List (List Int)), (∀ h ∈ s, ∀ t ∈ h.2.2, P t) → (∀ t ∈ acc, P t) → appL a s i acc = some (i1, acc1) → ∀ t ∈ acc1, P t
  | [], i, acc, i1, acc1, _, hc, h => by cases h; exact hc
  | h :: s, i, acc, i1, acc1, hs, hc, hr => by
    unfold appL at hr
    split at hr
    · refine appL_all P a ha s _ _ i1 acc1 (fun g hg => hs g (List.mem_cons_of_mem _ hg)) (fun t ht => ?_) hr
      rcases List.mem_append.1 ht with ht | ht
      · rcases List.mem_append.1 ht with ht | ht
        · exact hc t ht
        · exact ha t (List.mem_of_mem_drop (List.mem_of_mem_take ht))
      · exact hs h (List.mem_cons_self ..) t ht
    · cases hr
theorem stand_eq {a old : List (List Int)} {n : Nat} (h : standB a old n = true) : (a.drop n).take old.length = old := by
  unfold standB at h
  simp only [Bool.and_eq_true, decide_eq_true_eq] at h
  exact h.2
theorem inv_some (a : List (List Int)) : ∀ (s : List Hk) (i : Nat) (en d : Int) (acc : List (List Int)) (i1 : Nat) (acc1 : List (List Int)), goodB en s = true → -1 ≤ en → appL a s i acc = some (i1, acc1) → (a.length : Int) + d + (swt s : Int) ≤ 1048576 →
    ∃ t, invL s d = some t ∧ goodB (en + d) t = true
  | [], i, en, d, acc, i1, acc1, _, _, _, _ => ⟨[], rfl, rfl⟩
  | h :: s, i, en, d, acc, i1, acc1, hg, he, hr, hd => by
    unfold goodB at hg
    simp only [Bool.and_eq_true, decide_eq_true_eq] at hg
    obtain ⟨g1, g2, g3, g4, g5, g6⟩ := hg
    unfold appL at hr
    split at hr
    · rename_i hs
      have hle := stand_le hs
      rw [swt_cons] at hd
      have l1 := wt_len h.2.1
      have l2 := wt_len h.2.2
      obtain ⟨t, e1, e2⟩ := inv_some a s _ (h.1 + (h.2.1.length : Int)) (d + ((h.2.2.length : Int) - (h.2.1.length : Int))) _ i1 acc1 g6 (by omega) hr (by omega)
      refine ⟨(h.1 + d, (h.2.2, h.2.1)) :: t, ?_, ?_⟩
      · unfold invL
        rw [if_neg (by omega), e1]
        rfl
      · unfold goodB
        simp only [Bool.and_eq_true, decide_eq_true_eq]
        refine ⟨by omega, by omega, by omega, g5, g4, ?_⟩
        rw [show h.1 + d + (h.2.2.length : Int) = h.1 + (h.2.1.length : Int) + (d + ((h.2.2.length : Int) - (h.2.1.length : Int))) by omega]
        exact e2
    · cases hr
theorem back_step (a : List (List Int)) : ∀ (s t : List Hk) (i : Nat) (en d : Int) (acc : List (List Int)) (i1 : Nat) (acc1 : List (List Int)), goodB en s = true → (i : Int) ≤ en + 1 → i ≤ a.length → d = (acc.length : Int) - (i : Int) → appL a s i acc = some (i1, acc1) → invL s d = some t →
    ∃ i2 acc2, appL (acc1 ++ a.drop i1) t acc.length (a.take i) = some (i2, acc2) ∧ acc2 ++ (acc1 ++ a.drop i1).drop i2 = a
  | [], t, i, en, d, acc, i1, acc1, _, _, hia, _, hr, ht => by
    cases hr
    cases ht
    refine ⟨acc.length, a.take i, rfl, ?_⟩
    rw [List.drop_left, List.take_append_drop]
  | h :: s, t, i, en, d, acc, i1, acc1, hg, hi, hia, hd, hr, ht => by
    unfold goodB at hg
    simp only [Bool.and_eq_true, decide_eq_true_eq] at hg
    obtain ⟨g1, g2, g3, g4, g5, g6⟩ := hg
    unfold appL at hr
    split at hr
    · rename_i hs
      have hle := stand_le hs
      have heq := stand_eq hs
      unfold invL at ht
      split at ht
      · cases ht
      · rename_i hc
        cases hr2 : invL s (d + ((h.2.2.length : Int) - (h.2.1.length : Int))) with
        | none => rw [hr2] at ht; cases ht
        | some t2 =>
          rw [hr2] at ht
          cases ht
          obtain ⟨n, hn⟩ : ∃ n : Nat, h.1 = (n : Int) := ⟨h.1.toNat, by omega⟩
          rw [hn, Int.toNat_natCast] at hr hle heq
          have hin : i ≤ n := by omega
          have lt : ((a.drop i).take (n - i)).length = n - i := by rw [List.length_take, List.length_drop]; omega
          obtain ⟨q, hq⟩ := appL_ext a s _ _ i1 acc1 hr
          have la : (acc ++ (a.drop i).take (n - i) ++ h.2.2).length = acc.length + (n - i) + h.2.2.length := by rw [List.length_append, List.length_append, lt]
          obtain ⟨i2, acc2, r1, r2⟩ := back_step a s t2 (n + h.2.1.length) (h.1 + (h.2.1.length : Int)) _ (acc ++ (a.drop i).take (n - i) ++ h.2.2) i1 acc1 g6 (by omega) hle (by rw [la]; omega) hr hr2
          refine ⟨i2, acc2, ?_, r2⟩
          have e1 : (h.1 + d).toNat = acc.length + (n - i) := by omega
          have eR : acc1 ++ a.drop i1 = acc ++ ((a.drop i).take (n - i) ++ (h.2.2 ++ (q ++ a.drop i1))) := by rw [hq]; simp only [List.append_assoc]
          have d1 : (acc1 ++ a.drop i1).drop acc.length = (a.drop i).take (n - i) ++ (h.2.2 ++ (q ++ a.drop i1)) := by rw [eR, List.drop_left]
          have d2 : (acc1 ++ a.drop i1).drop (acc.length + (n - i)) = h.2.2 ++ (q ++ a.drop i1) := by rw [← List.drop_drop, d1, List.drop_append_of_le_length (by omega), List.drop_of_length_le (by omega), List.nil_append]
          have hst : standB (acc1 ++ a.drop i1) h.2.2 (acc.length + (n - i)) = true := by
            unfold standB
            rw [d2, List.take_left]
            simp only [decide_true, Bool.and_true, decide_eq_true_eq]
            rw [eR]
            simp only [List.length_append, lt]
            omega
          show (if standB (acc1 ++ a.drop i1) h.2.2 (h.1 + d).toNat then appL _ t2 ((h.1 + d).toNat + h.2.2.length) (a.take i ++ ((acc1 ++ a.drop i1).drop acc.length).take ((h.1 + d).toNat - acc.length) ++ h.2.1) else none) = _
          rw [e1, hst, if_pos rfl, d1, show acc.length + (n - i) - acc.length = n - i by omega]
          rw [List.take_append_of_le_length (by omega), List.take_of_length_le (Nat.le_of_eq lt)]
          have e3 : a.take i ++ (a.drop i).take (n - i) = a.take n := by
            have := List.take_add (l := a) (i := i) (j := n - i)
            rw [show i + (n - i) = n by omega] at this
            exact this.symm
          have e4 : a.take n ++ h.2.1 = a.take (n + h.2.1.length) := by
            rw [List.take_add, heq]
          rw [e3, e4, ← la]
          exact r1
    · cases hr
theorem cut0_flat : ∀ (r : List (List Int)), (∀ t ∈ r, t.length = 1) → cutT 0 r.flatten = r
  | [], _ => rfl
  | t :: r, h => by
    have h1 := h t (List.mem_cons_self ..)
    obtain ⟨x, rfl⟩ := List.length_eq_one_iff.1 h1
    have ih := cut0_flat r (fun t ht => h t (List.mem_cons_of_mem _ ht))
    show linesS 0 [] (x :: r.flatten) = _
    unfold linesS
    rw [if_pos (.inl rfl)]
    unfold cutT at ih
    rw [ih]
    rfl
theorem cut0_one : ∀ (a : List Int), (∀ t ∈ cutT 0 a, t.length = 1) ∧ (cutT 0 a).flatten = a ∧ (cutT 0 a).length = a.length
  | [] => ⟨(fun t ht => by cases ht), rfl, rfl⟩
  | x :: a => by
    obtain ⟨h1, h2, h3⟩ := cut0_one a
    have e : cutT 0 (x :: a) = [x] :: cutT 0 a := by
      show linesS 0 [] (x :: a) = _
      unfold linesS
      rw [if_pos (.inl rfl)]
      rfl
    rw [e]
    refine ⟨fun t ht => ?_, by rw [List.flatten_cons, h2]; rfl, by rw [List.length_cons, h3, List.length_cons]⟩
    rcases List.mem_cons.1 ht with rfl | ht
    · rfl
    · exact h1 t ht
theorem hunks_one : ∀ (s : List Hk) (en : Int), hunksOk 0 en s → ∀ h ∈ s, ∀ t ∈ h.2.2, t.length = 1
  | [], _, _ => fun h hh => by cases hh
  | g :: s, en, hs => fun h hh t ht => by
    obtain ⟨⟨h1, h2, h3, h4, h5, h6⟩, hr⟩ := hs
    rcases List.mem_cons.1 hh with rfl | hh
    · have := (h6.2 t ht).1
      unfold isTok at this
      simpa using this
    · exact hunks_one s _ hr h hh t ht
/-- In bytes the same script, turned round, carries back. -/
theorem undo_back {b a : List Int} (hb : ∀ x ∈ b, 0 ≤ x ∧ x ≤ 255) (lb : b.length ≤ 400) (la : a.length ≤ 60) {s : List Hk} (hd : decS b = .inl (0, s)) (he : (appP b a).2.2 = 0) : undP b (appP b a).1 = (a, 0, 0) := by
  obtain ⟨hm, hw, hby, hg, hat⟩ := dec_facts hb hd
  obtain ⟨_, hok, _⟩ := dec_some b 0 s hd
  obtain ⟨o1, o2, o3⟩ := cut0_one a
  have eA : appP b a = ((carS 0 s a).1, 0, (carS 0 s a).2) := by unfold appP; rw [hd]
  rw [eA] at he ⊢
  unfold carS at he ⊢
  cases hr : appL (cutT 0 a) s 0 [] with
  | none =>
    have e0 : resA (cutT 0 a) s = ([], 5) := by unfold resA; rw [if_pos hg, hr]
    rw [e0] at he
    exact absurd he (by decide)
  | some p =>
    obtain ⟨i1, acc1⟩ := p
    have e0 : resA (cutT 0 a) s = (acc1 ++ (cutT 0 a).drop i1, 0) := by unfold resA; rw [if_pos hg, hr]
    rw [e0]
    simp only
    obtain ⟨t, e1, e2⟩ := inv_some (cutT 0 a) s 0 (-1) 0 [] i1 acc1 hg (by omega) hr (by omega)
    obtain ⟨i2, acc2, r1, r2⟩ := back_step (cutT 0 a) s t 0 (-1) 0 [] i1 acc1 hg (by omega) (Nat.zero_le _) rfl hr e1
    have one : ∀ t ∈ acc1 ++ (cutT 0 a).drop i1, t.length = 1 := fun t ht => by
      rcases List.mem_append.1 ht with ht | ht
      · exact appL_all (fun t => t.length = 1) (cutT 0 a) o1 s 0 [] i1 acc1 (hunks_one s _ hok) (fun t ht => by cases ht) hr t ht
      · exact o1 t (List.mem_of_mem_drop ht)
    have eI : resI s = (t, 0) := by unfold resI; rw [if_pos hg, e1]
    unfold undP
    rw [hd]
    simp only [eI, if_pos]
    unfold carS
    rw [cut0_flat _ one]
    have r1 : appL (acc1 ++ (cutT 0 a).drop i1) t 0 [] = some (i2, acc2) := r1
    have e3 : resA (acc1 ++ (cutT 0 a).drop i1) t = (cutT 0 a, 0) := by
      unfold resA
      rw [if_pos (by simpa using e2), r1]
      simp only [r2]
    rw [e3]
    simp only [o2]
theorem strEq_refl (s : ByteArray) : strEq s s = true := by simp [strEq]
theorem resA_two (a : List (List Int)) (s : List Hk) (hg : goodB (-1) s = true) : (resA a s).2 = 0 ∨ (resA a s).2 = 5 := by
  unfold resA
  rw [if_pos hg]
  cases appL a s 0 [] with
  | none => exact .inr rfl
  | some p => exact .inl rfl
theorem resI_good (s : List Hk) (en d : Int) (t : List Hk) (hg : goodB en s = true) (h : invL s d = some t) : goodB (en + d) t = true := by
  induction s generalizing en d t with
  | nil => cases h; rfl
  | cons x s ih =>
    unfold goodB at hg
    simp only [Bool.and_eq_true, decide_eq_true_eq] at hg
    obtain ⟨g1, g2, g3, g4, g5, g6⟩ := hg
    unfold invL at h
    split at h
    · cases h
    · rename_i hc
      cases hr : invL s (d + ((x.2.2.length : Int) - (x.2.1.length : Int))) with
      | none => rw [hr] at h; cases h
      | some r =>
        rw [hr] at h
        cases h
        have i1 := ih _ _ r g6 hr
        unfold goodB
        simp only [Bool.and_eq_true, decide_eq_true_eq]
        refine ⟨by omega, by omega, by omega, g5, g4, ?_⟩
        rw [show x.1 + d + (x.2.2.length : Int) = x.1 + (x.2.1.length : Int) + (d + ((x.2.2.length : Int) - (x.2.1.length : Int))) by omega]
        exact i1
/-- What undoing may come to. -/
theorem und_three {b : List Int} (hb : ∀ x ∈ b, 0 ≤ x ∧ x ≤ 255) (a : List Int) {mode : Int} {s : List Hk} (hd : decS b = .inl (mode, s)) :
    (∃ l, undP b a = (l, 0, 0)) ∨ undP b a = ([], 0, 5) ∨ undP b a = ([], 0, 2) := by
  obtain ⟨hm, hw, hby, hg, hat⟩ := dec_facts hb hd
  unfold undP
  rw [hd]
  simp only
  cases hi : invL s 0 with
  | none =>
    have eI : resI s = ([], 2) := by unfold resI; rw [if_pos hg, hi]
    rw [eI, if_neg (by decide)]
    exact .inr (.inr rfl)
  | some t =>
    have eI : resI s = (t, 0) := by unfold resI; rw [if_pos hg, hi]
    have hgt := resI_good s (-1) 0 t hg hi
    rw [eI, if_pos rfl]
    unfold carS
    rcases resA_two (cutT mode a) t (by simpa using hgt) with h | h
    · simp only [h]
      exact .inl ⟨_, rfl⟩
    · simp only [h, resA_err _ _ (show (resA (cutT mode a) t).2 ≠ 0 by rw [h]; decide)]
      exact .inr (.inl rfl)
theorem app_two {b : List Int} (hb : ∀ x ∈ b, 0 ≤ x ∧ x ≤ 255) (a : List Int) {mode : Int} {s : List Hk} (hd : decS b = .inl (mode, s)) :
    (∃ l, appP b a = (l, 0, 0) ∧ l.length ≤ 2 * a.length + b.length) ∨ appP b a = ([], 0, 5) := by
  obtain ⟨hm, hw, hby, hg, hat⟩ := dec_facts hb hd
  unfold appP
  rw [hd]
  simp only
  unfold carS
  rcases resA_two (cutT mode a) s hg with h | h
  · simp only [h]
    refine .inl ⟨_, rfl, ?_⟩
    have h1 := resA_wt (cutT mode a) s
    have h2 := (wt_len (resA (cutT mode a) s).1).2
    have h3 := (lines_wt mode a []).2 rfl
    have h3 : wt (cutT mode a) ≤ 2 * a.length := h3
    omega
  · simp only [h, resA_err _ _ (show (resA (cutT mode a) s).2 ≠ 0 by rw [h]; decide)]
    exact .inr rfl
theorem app_by {b a : List Int} (hb : ∀ x ∈ b, 0 ≤ x ∧ x ≤ 255) (ha : ∀ x ∈ a, 0 ≤ x ∧ x ≤ 255) : ∀ x ∈ (appP b a).1, 0 ≤ x ∧ x ≤ 255 := by
  unfold appP
  cases hd : decS b with
  | inr p => exact fun x hx => by cases hx
  | inl y =>
    obtain ⟨mode, s⟩ := y
    obtain ⟨hm, hw, hby, hg, hat⟩ := dec_facts hb hd
    obtain ⟨c1, c2⟩ := cut_facts mode ha
    simp only
    unfold carS
    have key : ∀ t ∈ (resA (cutT mode a) s).1, ∀ x ∈ t, 0 ≤ x ∧ x ≤ 255 := by
      unfold resA
      rw [if_pos hg]
      cases hr : appL (cutT mode a) s 0 [] with
      | none => exact fun t ht => by cases ht
      | some p =>
        obtain ⟨i1, acc1⟩ := p
        intro t ht
        rcases List.mem_append.1 ht with ht | ht
        · exact appL_all (fun t => ∀ x ∈ t, 0 ≤ x ∧ x ≤ 255) (cutT mode a) c2 s 0 [] i1 acc1 (fun h hh t ht => (hby h hh).2 t ht) (fun t ht => by cases ht) hr t ht
        · exact c2 t (List.mem_of_mem_drop ht)
    intro x hx
    obtain ⟨t, ht, hx⟩ := List.mem_flatten.1 hx
    exact key t ht x hx
theorem toksS_place (mode : Int) (b : List Int) : ∀ (n f : Nat) (acc : List (List Int)) (p : Nat), f ≤ b.length → toksS mode b n f acc = .inr p → p ≤ b.length
  | 0, f, acc, p, _, h => by cases h
  | n + 1, f, acc, p, hf, h => by
    rw [toksS_succ] at h
    cases ht : tokS mode b f with
    | none => rw [ht] at h; cases h; exact hf
    | some r =>
      obtain ⟨t, e⟩ := r
      rw [ht] at h
      exact toksS_place mode b n e _ p (tokS_le ht).2 h
theorem stepS_place (mode : Int) (b : List Int) (f : Nat) (en : Int) (p : Nat) (h0 : At b f 64) (hf : f ≤ b.length) (h : stepS mode b f en = .inr p) : p ≤ b.length := by
  unfold stepS at h
  cases hl : lineS b f with
  | none => rw [hl] at h; cases h; exact hf
  | some r =>
    obtain ⟨x, y, z, e⟩ := r
    have hle := lineS_le h0 hl
    rw [hl] at h
    simp only at h
    split at h
    · cases h; exact hf
    · cases h1 : toksS mode b y.toNat e [] with
      | inr q => rw [h1] at h; cases h; exact toksS_place mode b _ e _ _ hle.2.1 h1
      | inl r1 =>
        obtain ⟨o, e1⟩ := r1
        have he1 := (hunk_bound h1 hle.2.1).2.2
        rw [h1] at h
        simp only at h
        cases h2 : toksS mode b z.toNat e1 [] with
        | inr q => rw [h2] at h; cases h; exact toksS_place mode b _ e1 _ _ he1 h2
        | inl r2 => rw [h2] at h; cases h
theorem hunksS_place (mode : Int) (b : List Int) : ∀ (m f : Nat) (en : Int) (acc : List Hk) (p : Nat), f ≤ b.length → hunksS mode b m f en acc = .inr p → p ≤ b.length
  | 0, f, en, acc, p, hf, h => by
    unfold hunksS at h
    cases h
    exact hf
  | m + 1, f, en, acc, p, hf, h => by
    unfold hunksS at h
    split at h
    · rename_i h0
      split at h
      · rename_i q hq
        cases h
        exact stepS_place mode b f en _ h0 hf hq
      · rename_i g e hq
        refine hunksS_place mode b m e _ _ p ?_ h
        obtain ⟨_, ⟨r, hr⟩, rfl⟩ := (stepS_iff mode b f en h0 g e).1 hq
        exact drop_len hr (hunkB_pos g)
    · cases h
theorem dec_place {b : List Int} {p : Nat} (h : decS b = .inr p) : p ≤ b.length := by
  unfold decS at h
  cases hf : firstS b with
  | none => rw [hf] at h; cases h; exact Nat.zero_le _
  | some mode =>
    rw [hf] at h
    obtain ⟨hm, r0, hr0⟩ := (first_iff b mode).1 hf
    have h16 : 16 ≤ b.length := by
      have := congrArg List.length hr0
      rw [List.length_append, hd_len] at this
      omega
    simp only at h
    cases hh : hunksS mode b (b.length + 1) 16 (-1) [] with
    | inr q => rw [hh] at h; cases h; exact hunksS_place mode b _ 16 _ _ _ h16 hh
    | inl r =>
      obtain ⟨s, f⟩ := r
      have hf' := (hunks_le mode b (by omega) h16 hh).2
      rw [hh] at h
      unfold restS finS at h
      simp only at h
      split at h
      · split at h
        · rename_i hlt
          cases h
          omega
        · cases h
      · cases h; exact hf'
abbrev stT (b a l1 l2 : List Int) (p1 q1 p2 q2 : Int) (y1 v2 : Bool) (v3 : Int) (v4 : Bool) (v5 : Int) (v6 : Bool) : St := ⟨[.sl (.int .u8) (b), .sl (.int .u8) (a), .undef, .undef, .bool (false), .sl (.int .u8) (l1), .int .i64 (p1), .int .i64 (q1), .sl (.int .u8) (l2), .int .i64 (p2), .int .i64 (q2), .undef, .undef, .undef, .undef, .undef, .undef, .undef, .bool (y1), .bool (v2), .sl (.int .u8) (b), .int .i64 (v3), .bool (v4), .bool (false), .sl (.int .u8) (a), .int .i64 (v5), .bool (v6), .bool (v6), .tcons (.sl (.int .u8) (l1)) (.tcons (.int .i64 (p1)) (.tcons (.int .i64 (q1)) (.tup0))), .sl (.int .u8) (b), .sl (.int .u8) (a), .tcons (.sl (.int .u8) (l1)) (.tcons (.int .i64 (p1)) (.tcons (.int .i64 (q1)) (.tup0))), .sl (.int .u8) (l1), .int .i64 (p1), .int .i64 (q1), .tcons (.sl (.int .u8) (l2)) (.tcons (.int .i64 (p2)) (.tcons (.int .i64 (q2)) (.tup0))), .sl (.int .u8) (b), .sl (.int .u8) (a), .tcons (.sl (.int .u8) (l2)) (.tcons (.int .i64 (p2)) (.tcons (.int .i64 (q2)) (.tup0))), .sl (.int .u8) (l2), .int .i64 (p2), .int .i64 (q2), .undef, .undef, .undef, .undef, .undef, .undef, .undef, .undef, .undef, .undef, .undef, .undef, .undef, .undef, .undef, .undef, .undef, .undef, .undef, .undef, .undef, .undef, .undef, .undef, .undef, .undef, .undef, .undef, .undef, .undef, .undef, .undef, .undef, .undef, .undef, .undef, .undef, .undef, .undef, .undef, .undef, .undef, .undef, .undef, .undef, .undef, .undef, .undef, .undef, .undef, .undef, .undef, .undef, .undef, .undef, .undef, .undef, .undef, .undef, .undef, .undef, .undef, .undef, .undef, .undef, .undef, .undef, .undef, .undef, .undef, .undef, .undef, .undef, .undef, .undef, .undef, .undef, .undef, .undef, .undef, .undef, .undef, .undef, .undef, .undef, .undef, .undef, .undef, .undef, .undef, .undef, .undef, .undef, .undef, .undef, .undef, .undef, .undef, .undef, .undef, .undef, .undef, .undef, .undef, .undef, .undef], []⟩
set_option maxRecDepth 100000 in
theorem rc_form (call : CallFn E) (n : Nat) (b a : List Int) (p : Int) (y1 v2 : Bool) (v3 : Int) (v4 : Bool) (v5 : Int) (v6 : Bool) : rest3 call n (stT b a [] [] p 4 p 4 y1 v2 v3 v4 v5 v6) =
    (bif decide (p < 0) == false then (bif decide (p > (b.length : Int)) == false then (bif !decide (p = p) then some false else Option.bind (g7 call b) fun y => some (decide ((4 : Int) = 4) == !decide (y.2.2.2 = 0))) else some false) else some false) := by kernel_rfl
set_option maxRecDepth 100000 in
theorem rc_00 (call : CallFn E) (n : Nat) (b a l1 l2 : List Int) (y1 v2 : Bool) (v3 : Int) (v4 : Bool) (v5 : Int) (v6 : Bool) : rest3 call n (stT b a l1 l2 0 0 0 0 y1 v2 v3 v4 v5 v6) = Option.bind (g7 call b) fun y => (bif (!decide (y.2.2.2 = 0)) == false then (bif !decide (y.1 = 0) then some (decide ((0 : Int) = 4) == !decide (y.2.2.2 = 0)) else Option.bind (g6 call b l1) fun z => (bif decide (z.2.2 = 0) == true then some (strEq (bytesStr z.1) (bytesStr a)) else some false)) else some (decide ((0 : Int) = 4) == !decide (y.2.2.2 = 0))) := by kernel_rfl
set_option maxRecDepth 100000 in
theorem rc_50 (call : CallFn E) (n : Nat) (b a l2 : List Int) (y1 v2 : Bool) (v3 : Int) (v4 : Bool) (v5 : Int) (v6 : Bool) : rest3 call n (stT b a [] l2 0 5 0 0 y1 v2 v3 v4 v5 v6) = (bif decide ((0 : Int) > (b.length : Int)) == false then Option.bind (g7 call b) fun y => some (decide ((5 : Int) = 4) == !decide (y.2.2.2 = 0)) else some false) := by kernel_rfl
set_option maxRecDepth 100000 in
theorem rc_05 (call : CallFn E) (n : Nat) (b a l1 : List Int) (y1 v2 : Bool) (v3 : Int) (v4 : Bool) (v5 : Int) (v6 : Bool) : rest3 call n (stT b a l1 [] 0 0 0 5 y1 v2 v3 v4 v5 v6) = Option.bind (g7 call b) fun y => (bif (!decide (y.2.2.2 = 0)) == false then (bif !decide (y.1 = 0) then some (decide ((0 : Int) = 4) == !decide (y.2.2.2 = 0)) else Option.bind (g6 call b l1) fun z => (bif decide (z.2.2 = 0) == true then some (strEq (bytesStr z.1) (bytesStr a)) else some false)) else some (decide ((0 : Int) = 4) == !decide (y.2.2.2 = 0))) := by kernel_rfl
set_option maxRecDepth 100000 in
theorem rc_55 (call : CallFn E) (n : Nat) (b a : List Int) (y1 v2 : Bool) (v3 : Int) (v4 : Bool) (v5 : Int) (v6 : Bool) : rest3 call n (stT b a [] [] 0 5 0 5 y1 v2 v3 v4 v5 v6) = (bif decide ((0 : Int) > (b.length : Int)) == false then Option.bind (g7 call b) fun y => some (decide ((5 : Int) = 4) == !decide (y.2.2.2 = 0)) else some false) := by kernel_rfl
set_option maxRecDepth 100000 in
theorem rc_02 (call : CallFn E) (n : Nat) (b a l1 : List Int) (y1 v2 : Bool) (v3 : Int) (v4 : Bool) (v5 : Int) (v6 : Bool) : rest3 call n (stT b a l1 [] 0 0 0 2 y1 v2 v3 v4 v5 v6) = Option.bind (g7 call b) fun y => (bif (!decide (y.2.2.2 = 0)) == false then (bif !decide (y.1 = 0) then some (decide ((0 : Int) = 4) == !decide (y.2.2.2 = 0)) else Option.bind (g6 call b l1) fun z => (bif decide (z.2.2 = 0) == true then some (strEq (bytesStr z.1) (bytesStr a)) else some false)) else some (decide ((0 : Int) = 4) == !decide (y.2.2.2 = 0))) := by kernel_rfl
set_option maxRecDepth 100000 in
theorem rc_52 (call : CallFn E) (n : Nat) (b a : List Int) (y1 v2 : Bool) (v3 : Int) (v4 : Bool) (v5 : Int) (v6 : Bool) : rest3 call n (stT b a [] [] 0 5 0 2 y1 v2 v3 v4 v5 v6) = (bif decide ((0 : Int) > (b.length : Int)) == false then Option.bind (g7 call b) fun y => some (decide ((5 : Int) = 4) == !decide (y.2.2.2 = 0)) else some false) := by kernel_rfl
theorem law (b a : List Int) (w0 : WF (.slice (.int .u8)) b) (w1 : WF (.slice (.int .u8)) a) : R3 4001 b a = some true := by
  have hb : ∀ x ∈ b, 0 ≤ x ∧ x ≤ 255 := fun x hx => wf_u8 (w0.2 x hx)
  have ha : ∀ x ∈ a, 0 ≤ x ∧ x ≤ 255 := fun x hx => wf_u8 (w1.2 x hx)
  rw [u3]
  unfold r3
  rw [awake, Option.bind_some]
  simp only [Bool.not_true, cond_false]
  by_cases h : b.length ≤ 400
  · rw [decide_eq_false (show ¬ (b.length : Int) > 400 by omega), beq_self_eq_true, cond_true]
    by_cases h2 : a.length ≤ 60
    · rw [decide_eq_false (show ¬ (a.length : Int) > 60 by omega), cond_false, PApply_is b a hb ha h (by omega), Option.bind_some, PUndo_is b a hb ha h (by omega), Option.bind_some]
      have hD0 := RefDecode_is 3997 b hb (by omega) (by omega)
      have hD : g7 (evalF E 4000) b = _ := (congrFun (e7 4000) b).trans hD0
      have hU0 : ∀ l, g6 (evalF E 4000) b l = R6 4000 b l := fun l => congrFun (congrFun (e6 4000) b) l
      cases hd : decS b with
      | inr p =>
        have hp := dec_place hd
        have e1 : appP b a = ([], (p : Int), 4) := by unfold appP; rw [hd]
        have e2 : undP b a = ([], (p : Int), 4) := by unfold undP; rw [hd]
        rw [hd] at hD
        rw [e1, e2]
        refine (rc_form (evalF E 4000) 4000 b a p _ _ _ _ _ _).trans ?_
        rw [decide_eq_false (show ¬ (p : Int) < 0 by omega), decide_eq_false (show ¬ (p : Int) > (b.length : Int) by omega), decide_eq_true (show (p : Int) = (p : Int) from rfl), hD]
        rfl
      | inl y =>
        obtain ⟨mode, s⟩ := y
        rw [hd] at hD
        have h00 : decide ((0 : Int) > (b.length : Int)) = false := decide_eq_false (by omega)
        have fin0 : ∀ l, appP b a = (l, 0, 0) → l.length ≤ 2 * a.length + b.length → (Option.bind (g7 (evalF E 4000) b) fun y => (bif (!decide (y.2.2.2 = 0)) == false then (bif !decide (y.1 = 0) then some (decide ((0 : Int) = 4) == !decide (y.2.2.2 = 0)) else Option.bind (g6 (evalF E 4000) b l) fun z => (bif decide (z.2.2 = 0) == true then some (strEq (bytesStr z.1) (bytesStr a)) else some false)) else some (decide ((0 : Int) = 4) == !decide (y.2.2.2 = 0)))) = some true := fun l e1 ll => by
          rw [hD, Option.bind_some]
          by_cases m0 : mode = 0
          · subst m0
            have hu := undo_back hb h h2 hd (by rw [e1])
            rw [e1] at hu
            have hby := app_by (b := b) hb ha
            rw [e1] at hby
            have hU := PUndo_is b l hb hby h (by omega)
            rw [hu] at hU
            simp only [hU0, hU, Option.bind_some, strEq_refl]
            rfl
          · simp only [decide_eq_false m0]
            rfl
        rcases app_two hb a hd with ⟨l, e1, ll⟩ | e1
        · rcases und_three hb a hd with ⟨l2, e2⟩ | e2 | e2 <;> rw [e1, e2]
          · exact (rc_00 (evalF E 4000) 4000 b a l l2 _ _ _ _ _ _).trans (fin0 l e1 ll)
          · exact (rc_05 (evalF E 4000) 4000 b a l _ _ _ _ _ _).trans (fin0 l e1 ll)
          · exact (rc_02 (evalF E 4000) 4000 b a l _ _ _ _ _ _).trans (fin0 l e1 ll)
        · rcases und_three hb a hd with ⟨l2, e2⟩ | e2 | e2 <;> rw [e1, e2]
          · refine (rc_50 (evalF E 4000) 4000 b a l2 _ _ _ _ _ _).trans ?_
            rw [h00, hD]
            rfl
          · refine (rc_55 (evalF E 4000) 4000 b a _ _ _ _ _ _).trans ?_
            rw [h00, hD]
            rfl
          · refine (rc_52 (evalF E 4000) 4000 b a _ _ _ _ _ _).trans ?_
            rw [h00, hD]
            rfl
    · rw [decide_eq_true (show (a.length : Int) > 60 by omega), cond_true]
  · rw [decide_eq_true (show (b.length : Int) > 400 by omega)]
    rfl
theorem law_run (a0 : List Int) (w0 : WF (.slice (.int .u8)) a0) (a1 : List Int) (w1 : WF (.slice (.int .u8)) a1) : runHow E (evalF E 4000) 4000 s3 (a0, a1) h3 = some true :=
  (law_R 4000 a0 a1).trans (law a0 a1 w0 w1)
end Go.Proofs.YtakjaafenhdpjaaGreat.ETopAnyBytes
