import Derived.Test.YtjidbphhcekelaaGreatPat4PortScripts
import Derived.Test.YtjidbphhcekelaaGreatDecPortScripts
import Derived.Test.YtjidbphhcekelaaGreatRefDecPortScripts
namespace Go.Proofs.YtjidbphhcekelaaGreat.EPortScripts
open Go Go.Proofs.YtjidbphhcekelaaGreat.AE Go.Proofs.YtjidbphhcekelaaGreat
set_option linter.unusedVariables false
set_option linter.unusedSimpArgs false
set_option maxRecDepth 100000 in
theorem awake : R10 1300 () = some true := by
  show evalF E 1300 10 () = _
  rw [← evalK_eq]
  kernel_rfl
/-! What a script that was read is. -/
theorem wt_cons (t : List Int) (l : List (List Int)) : wt (t :: l) = 1 + t.length + wt l := by unfold wt; rw [List.flatten_cons, List.length_append, List.length_cons]; omega
theorem toks_wt : ∀ (l : List (List Int)), wt l ≤ (toksB l).length
  | [] => Nat.zero_le _
  | t :: l => by
    have h1 := toks_wt l
    have h2 : (toksB (t :: l)).length = (tokB t).length + (toksB l).length := by simp [toksB]
    have h3 : t.length + 1 ≤ (tokB t).length := by unfold tokB; rw [List.length_append, List.length_cons, List.length_append, List.length_singleton]; omega
    rw [h2, wt_cons]; omega
theorem hunks_wt : ∀ (s : List Hk), swt s ≤ (hunksB s).length
  | [] => Nat.zero_le _
  | h :: s => by
    have h1 := hunks_wt s
    have e : (hunksB (h :: s)).length = (hunkB h).length + (hunksB s).length := by simp [hunksB]
    have e2 : (hunkB h).length = (lineB h.1.toNat h.2.1.length h.2.2.length).length + ((toksB h.2.1).length + (toksB h.2.2).length) := by unfold hunkB; simp
    have e3 : 1 ≤ (lineB h.1.toNat h.2.1.length h.2.2.length).length := by unfold lineB; rw [List.length_cons]; omega
    have t1 := toks_wt h.2.1
    have t2 := toks_wt h.2.2
    rw [swt_cons, e]; omega
theorem toks_sub : ∀ (l : List (List Int)) (t : List Int), t ∈ l → ∀ x ∈ t, x ∈ toksB l
  | [], t, h => by cases h
  | u :: l, t, h => fun x hx => by
    have e : toksB (u :: l) = tokB u ++ toksB l := by simp [toksB]
    rw [e, List.mem_append]
    rcases List.mem_cons.1 h with rfl | h
    · left; unfold tokB; simp [hx]
    · right; exact toks_sub l t h x hx
theorem hunks_by {b : List Int} (hb : ∀ x ∈ b, 0 ≤ x ∧ x ≤ 255) : ∀ (s : List Hk), (∀ x ∈ hunksB s, x ∈ b) → ByS s
  | [], _ => fun h hh => by cases hh
  | g :: s, hs => fun h hh => by
    have e : hunksB (g :: s) = hunkB g ++ hunksB s := by simp [hunksB]
    rw [e] at hs
    rcases List.mem_cons.1 hh with rfl | hh
    · have e2 : hunkB h = lineB h.1.toNat h.2.1.length h.2.2.length ++ (toksB h.2.1 ++ toksB h.2.2) := rfl
      rw [e2] at hs
      exact ⟨fun t ht x hx => hb x (hs x (by simp [toks_sub _ t ht x hx])), fun t ht x hx => hb x (hs x (by simp [toks_sub _ t ht x hx]))⟩
    · exact hunks_by hb s (fun x hx => hs x (List.mem_append_right _ hx)) h hh
theorem isTok_pos {mode : Int} (hm : mode = 0 ∨ mode = 1) {t : List Int} (h : isTok mode t = true) : t.length ≠ 0 := by
  unfold isTok at h
  rcases hm with rfl | rfl
  · simp at h; omega
  · simp at h
    obtain ⟨h1, _⟩ := h
    intro h0
    have := List.eq_nil_of_length_eq_zero h0
    subst this
    simp at h1
theorem hunks_good {mode : Int} (hm : mode = 0 ∨ mode = 1) : ∀ (s : List Hk) (en : Int), hunksOk mode en s → goodB en s = true
  | [], _, _ => rfl
  | h :: s, en, hs => by
    obtain ⟨⟨h1, h2, h3, h4, h5, h6⟩, hr⟩ := hs
    have ih := hunks_good hm s _ hr
    unfold goodB
    simp only [Bool.and_eq_true, decide_eq_true_eq, List.all_eq_true]
    exact ⟨h1, h3, by omega, fun t ht => isTok_pos hm (h5.2 t ht).1, fun t ht => isTok_pos hm (h6.2 t ht).1, ih⟩
theorem hunks_at {mode : Int} : ∀ (s : List Hk) (en : Int), hunksOk mode en s → ∀ h ∈ s, 0 ≤ h.1 ∧ h.1 ≤ 1048576
  | [], _, _ => fun h hh => by cases hh
  | g :: s, en, hs => fun h hh => by
    obtain ⟨⟨h1, h2, h3, _⟩, hr⟩ := hs
    rcases List.mem_cons.1 hh with rfl | hh
    · exact ⟨h2, h3⟩
    · exact hunks_at s _ hr h hh
/-- A script as it is read: its weight, its bytes. -/
theorem dec_facts {b : List Int} (hb : ∀ x ∈ b, 0 ≤ x ∧ x ≤ 255) {mode : Int} {s : List Hk} (h : decS b = .inl (mode, s)) :
    (mode = 0 ∨ mode = 1) ∧ swt s ≤ b.length ∧ ByS s ∧ goodB (-1) s = true ∧ ∀ h ∈ s, -1 ≤ h.1 ∧ h.1 ≤ 1048576 := by
  obtain ⟨hm, hok, he⟩ := dec_some b mode s h
  have e : encS mode s = hd mode ++ (hunksB s ++ [46, 10]) := rfl
  have h1 := hunks_wt s
  have hl := congrArg List.length he
  rw [e, List.length_append, List.length_append] at hl
  refine ⟨hm, by omega, hunks_by hb s (fun x hx => ?_), hunks_good hm s _ hok, fun g hg => by have := hunks_at s _ hok g hg; omega⟩
  rw [he, e]
  simp [hx]
theorem lines_wt (mode : Int) : ∀ (l cur : List Int), wt (linesS mode cur l) ≤ cur.length + 2 * l.length + 1 ∧ (cur = [] → wt (linesS mode cur l) ≤ 2 * l.length)
  | [], cur => by
    unfold linesS
    split
    · exact ⟨Nat.zero_le _, fun _ => Nat.zero_le _⟩
    · rename_i h
      exact ⟨by rw [wt_cons]; have : wt ([] : List (List Int)) = 0 := rfl; omega, fun h0 => absurd h0 h⟩
  | x :: l, cur => by
    obtain ⟨_, i2⟩ := lines_wt mode l []
    obtain ⟨i3, _⟩ := lines_wt mode l (cur ++ [x])
    have i2 := i2 rfl
    unfold linesS
    split
    · rw [wt_cons, List.length_append, List.length_singleton, List.length_cons]
      exact ⟨by omega, fun h0 => by subst h0; simp only [List.length_nil]; omega⟩
    · rw [List.length_append, List.length_singleton] at i3
      rw [List.length_cons]
      exact ⟨by omega, fun h0 => by subst h0; simp only [List.length_nil] at i3; omega⟩
theorem lines_by (mode : Int) : ∀ (l cur : List Int), (∀ x ∈ l, 0 ≤ x ∧ x ≤ 255) → (∀ x ∈ cur, 0 ≤ x ∧ x ≤ 255) → By (linesS mode cur l)
  | [], cur, _, hc => by
    unfold linesS
    split
    · exact fun t ht => by cases ht
    · exact fun t ht => by rw [List.mem_singleton.1 ht]; exact hc
  | x :: l, cur, hl, hc => by
    have hx := hl x (List.mem_cons_self ..)
    have hl' : ∀ y ∈ l, 0 ≤ y ∧ y ≤ 255 := fun y hy => hl y (List.mem_cons_of_mem _ hy)
    have hcx : ∀ y ∈ cur ++ [x], 0 ≤ y ∧ y ≤ 255 := fun y hy => by
      rcases List.mem_append.1 hy with hy | hy
      · exact hc y hy
      · rw [List.mem_singleton.1 hy]; exact hx
    unfold linesS
    split
    · intro t ht
      rcases List.mem_cons.1 ht with rfl | ht
      · exact hcx
      · exact lines_by mode l [] hl' (fun y hy => by cases hy) t ht
    · exact lines_by mode l (cur ++ [x]) hl' hcx
theorem cut_facts (mode : Int) {a : List Int} (ha : ∀ x ∈ a, 0 ≤ x ∧ x ≤ 255) : wt (cutT mode a) ≤ 2 * a.length ∧ By (cutT mode a) :=
  ⟨(lines_wt mode a []).2 rfl, lines_by mode a [] ha (fun y hy => by cases hy)⟩
def carS (mode : Int) (s : List Hk) (a : List Int) : List Int × Int := ((resA (cutT mode a) s).1.flatten, (resA (cutT mode a) s).2)
theorem resA_err (a : List (List Int)) (s : List Hk) (h : (resA a s).2 ≠ 0) : (resA a s).1 = [] := by
  unfold resA at h ⊢
  split at h
  · cases he : appL a s 0 [] with
    | none => simp_all
    | some p => rw [he] at h; exact absurd rfl h
  · simp_all
theorem carry_is (k : Nat) (mode : Int) (hm : mode = 0 ∨ mode = 1) (s : List Hk) (a : List Int) (ha : ∀ x ∈ a, 0 ≤ x ∧ x ≤ 255) (hb : ByS s) (hk : 2 * a.length + swt s < k) (hW : 2 * a.length + swt s ≤ 1099511627776) :
    R21 (k + 5) mode s a = some (carS mode s a) := by
  obtain ⟨c1, c2⟩ := cut_facts mode ha
  have hw := resA_wt (cutT mode a) s
  have hl := wt_len (resA (cutT mode a) s).1
  rw [u21]
  unfold r21 carS
  rw [Cut_is (k + 1) mode a ha (by omega) (by omega), if_pos hm, Option.bind_some]
  simp only [decide_true, Bool.not_true, cond_false]
  rw [Apply_is k (cutT mode a) s (by omega) (by omega) c2 hb, Option.bind_some]
  by_cases he : (resA (cutT mode a) s).2 = 0
  · simp only [decide_eq_true he, Bool.not_true, cond_false]
    rw [Join_is (k + 3) _ (by omega) (by omega) (by omega), Option.bind_some, he]
  · simp only [decide_eq_false he, Bool.not_false, cond_true]
    rw [resA_err _ _ he]
    rfl
def appP (b a : List Int) : List Int × Int × Int := match decS b with
  | .inl (mode, s) => ((carS mode s a).1, 0, (carS mode s a).2)
  | .inr p => ([], (p : Int), 4)
def undP (b a : List Int) : List Int × Int × Int := match decS b with
  | .inl (mode, s) => if (resI s).2 = 0 then ((carS mode (resI s).1 a).1, 0, (carS mode (resI s).1 a).2) else ([], 0, (resI s).2)
  | .inr p => ([], (p : Int), 4)
theorem PApply_is (b a : List Int) (hb : ∀ x ∈ b, 0 ≤ x ∧ x ≤ 255) (ha : ∀ x ∈ a, 0 ≤ x ∧ x ≤ 255) (lb : b.length ≤ 400) (la : a.length ≤ 400) : R8 1300 b a = some (appP b a) := by
  rw [u8]
  unfold r8 appP
  rw [Decode_is 1293 b hb (by omega) (by omega), Option.bind_some]
  cases hd : decS b with
  | inr p => rfl
  | inl x =>
    obtain ⟨mode, s⟩ := x
    obtain ⟨hm, hw, hby, hg, hat⟩ := dec_facts hb hd
    simp only [decide_true, Bool.not_true, cond_false]
    rw [carry_is 1294 mode hm s a ha hby (by omega) (by omega), Option.bind_some]
theorem resI_facts (s : List Hk) (hz : swt s ≤ 1099511627776) (hby : ByS s) (hat : ∀ h ∈ s, -1 ≤ h.1 ∧ h.1 ≤ 1048576) : swt (resI s).1 ≤ swt s ∧ ByS (resI s).1 ∧ ∀ h ∈ (resI s).1, -9223372036854775808 ≤ h.1 ∧ h.1 ≤ 9223372036854775807 := by
  have nil : swt ([] : List Hk) ≤ swt s ∧ ByS [] ∧ ∀ h ∈ ([] : List Hk), -9223372036854775808 ≤ h.1 ∧ h.1 ≤ 9223372036854775807 := ⟨Nat.zero_le _, (fun h hh => by cases hh), (fun h hh => by cases hh)⟩
  unfold resI
  split
  · cases h : invL s 0 with
    | none => exact nil
    | some t =>
      obtain ⟨e1, e2, e3⟩ := invL_facts s 0 t h
      refine ⟨by show swt t ≤ _; omega, e2 hby, fun g hg => ?_⟩
      have := e3 1099511627776 (by omega) (fun x hx => (hat x hx).1) (by omega) g hg
      omega
  · exact nil
theorem PUndo_is (b a : List Int) (hb : ∀ x ∈ b, 0 ≤ x ∧ x ≤ 255) (ha : ∀ x ∈ a, 0 ≤ x ∧ x ≤ 255) (lb : b.length ≤ 400) (la : a.length ≤ 400) : R9 1300 b a = some (undP b a) := by
  rw [u9]
  unfold r9 undP
  rw [Decode_is 1293 b hb (by omega) (by omega), Option.bind_some]
  cases hd : decS b with
  | inr p => rfl
  | inl x =>
    obtain ⟨mode, s⟩ := x
    obtain ⟨hm, hw, hby, hg, hat⟩ := dec_facts hb hd
    obtain ⟨r1, r2, r3⟩ := resI_facts s (by omega) hby hat
    simp only [decide_true, Bool.not_true, cond_false]
    rw [Invert_is 1295 s (by omega) (by omega) hat, Option.bind_some]
    by_cases he : (resI s).2 = 0
    · simp only [decide_eq_true he, Bool.not_true, cond_false, if_pos he]
      rw [carry_is 1294 mode hm (resI s).1 a ha r2 (by omega) (by omega), Option.bind_some]
    · simp only [decide_eq_false he, Bool.not_false, cond_true, if_neg he]
theorem rcut_is (k : Nat) (mode : Int) (hm : mode = 0 ∨ mode = 1) (a : List Int) (la : a.length < k) (lW : a.length ≤ 1099511627776) : R26 (k + 2) mode a = some (cutT mode a) := by
  rw [u26]
  unfold r26
  rw [RefCut_is k mode a lW la, if_pos hm, Option.bind_some]
theorem RApply_is (b a : List Int) (hb : ∀ x ∈ b, 0 ≤ x ∧ x ≤ 255) (ha : ∀ x ∈ a, 0 ≤ x ∧ x ≤ 255) (lb : b.length ≤ 400) (la : a.length ≤ 400) : R11 1300 b a = some (appP b a) := by
  rw [u11]
  unfold r11 appP
  rw [RefDecode_is 1296 b hb (by omega) (by omega), Option.bind_some]
  cases hd : decS b with
  | inr p => rfl
  | inl x =>
    obtain ⟨mode, s⟩ := x
    obtain ⟨hm, hw, hby, hg, hat⟩ := dec_facts hb hd
    obtain ⟨c1, c2⟩ := cut_facts mode ha
    have hwr := resA_wt (cutT mode a) s
    have hl := wt_len (resA (cutT mode a) s).1
    simp only [decide_true, Bool.not_true, cond_false]
    rw [rcut_is 1297 mode hm a (by omega) (by omega), Option.bind_some, RefApply_is 1297 (cutT mode a) s (by omega) (by omega) c2 hby (fun h hh => by have := hat h hh; omega), Option.bind_some]
    unfold carS
    by_cases he : (resA (cutT mode a) s).2 = 0
    · simp only [decide_eq_true he, Bool.not_true, cond_false]
      rw [RefJoin_is 1298 _ (by omega) (by omega) (by omega), Option.bind_some, he]
    · simp only [decide_eq_false he, Bool.not_false, cond_true]
      rw [resA_err _ _ he]
      rfl
theorem RUndo_is (b a : List Int) (hb : ∀ x ∈ b, 0 ≤ x ∧ x ≤ 255) (ha : ∀ x ∈ a, 0 ≤ x ∧ x ≤ 255) (lb : b.length ≤ 400) (la : a.length ≤ 400) : R12 1300 b a = some (undP b a) := by
  rw [u12]
  unfold r12 undP
  rw [RefDecode_is 1296 b hb (by omega) (by omega), Option.bind_some]
  cases hd : decS b with
  | inr p => rfl
  | inl x =>
    obtain ⟨mode, s⟩ := x
    obtain ⟨hm, hw, hby, hg, hat⟩ := dec_facts hb hd
    obtain ⟨r1, r2, r3⟩ := resI_facts s (by omega) hby hat
    obtain ⟨c1, c2⟩ := cut_facts mode ha
    have hwr := resA_wt (cutT mode a) (resI s).1
    have hl := wt_len (resA (cutT mode a) (resI s).1).1
    simp only [decide_true, Bool.not_true, cond_false]
    rw [RefInvert_is 1297 s (by omega) (by omega) hat, Option.bind_some]
    by_cases hi : (resI s).2 = 0
    · simp only [decide_eq_true hi, Bool.not_true, cond_false, if_pos hi]
      rw [rcut_is 1297 mode hm a (by omega) (by omega), Option.bind_some, RefApply_is 1297 (cutT mode a) (resI s).1 (by omega) (by omega) c2 r2 r3, Option.bind_some]
      unfold carS
      by_cases he : (resA (cutT mode a) (resI s).1).2 = 0
      · simp only [decide_eq_true he, Bool.not_true, cond_false]
        rw [RefJoin_is 1298 _ (by omega) (by omega) (by omega), Option.bind_some, he]
      · simp only [decide_eq_false he, Bool.not_false, cond_true]
        rw [resA_err _ _ he]
        rfl
    · simp only [decide_eq_false hi, Bool.not_false, cond_true, if_neg hi]
theorem strEq_refl (s : ByteArray) : strEq s s = true := by simp [strEq]
theorem law (b a : List Int) (w0 : WF (.slice (.int .u8)) b) (w1 : WF (.slice (.int .u8)) a) : R4 1301 b a = some true := by
  have hb : ∀ x ∈ b, 0 ≤ x ∧ x ≤ 255 := fun x hx => wf_u8 (w0.2 x hx)
  have ha : ∀ x ∈ a, 0 ≤ x ∧ x ≤ 255 := fun x hx => wf_u8 (w1.2 x hx)
  rw [u4]
  unfold r4
  rw [awake, Option.bind_some]
  simp only [Bool.not_true, cond_false]
  by_cases h : b.length ≤ 400
  · rw [decide_eq_false (show ¬ (b.length : Int) > 400 by omega), beq_self_eq_true, cond_true]
    by_cases h2 : a.length ≤ 60
    · rw [decide_eq_false (show ¬ (a.length : Int) > 60 by omega), cond_false, PApply_is b a hb ha h (by omega), Option.bind_some, RApply_is b a hb ha h (by omega), Option.bind_some, PUndo_is b a hb ha h (by omega), Option.bind_some, RUndo_is b a hb ha h (by omega), Option.bind_some]
      simp only [decide_true, beq_self_eq_true, cond_true, strEq_refl]
    · rw [decide_eq_true (show (a.length : Int) > 60 by omega), cond_true]
  · rw [decide_eq_true (show (b.length : Int) > 400 by omega)]
    rfl
theorem law_run (a0 : List Int) (w0 : WF (.slice (.int .u8)) a0) (a1 : List Int) (w1 : WF (.slice (.int .u8)) a1) : runHow E (evalF E 1300) 1300 s4 (a0, a1) h4 = some true :=
  (law_R 1300 a0 a1).trans (law a0 a1 w0 w1)
end Go.Proofs.YtjidbphhcekelaaGreat.EPortScripts
