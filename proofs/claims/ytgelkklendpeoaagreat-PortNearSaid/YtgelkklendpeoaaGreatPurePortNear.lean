import Derived.Test.YtgelkklendpeoaaGreatNear2PortNear
import Derived.Test.YtgelkklendpeoaaGreatCutPortNear
import Derived.Test.YtgelkklendpeoaaGreatNamPortNear
namespace Go.Proofs.YtgelkklendpeoaaGreat.EPortNear
open Go Go.Proofs.YtgelkklendpeoaaGreat.AE Go.Proofs.YtgelkklendpeoaaGreat Go.Proofs.YtgelkklendpeoaaGreat.Lcs Go.Proofs.YtgelkklendpeoaaGreat.NameX
set_option linter.unusedVariables false
set_option linter.unusedSimpArgs false
set_option maxRecDepth 100000 in
theorem awake : R4 4000 () = some true := by
  show evalF E 4000 4 () = _
  rw [← evalK_eq]
  kernel_rfl
theorem lines_len (mode : Int) : ∀ (l cur : List Int), (linesS mode cur l).length ≤ l.length + 1 ∧ (cur = [] → (linesS mode cur l).length ≤ l.length) ∧ (∀ t ∈ linesS mode cur l, t.length ≤ cur.length + l.length)
  | [], cur => by
    unfold linesS
    split
    · exact ⟨Nat.zero_le _, fun _ => Nat.zero_le _, fun t ht => by cases ht⟩
    · rename_i h
      exact ⟨Nat.le_refl _, fun h0 => absurd h0 h, fun t ht => by rw [List.mem_singleton.1 ht]; simp⟩
  | x :: l, cur => by
    obtain ⟨_, i2, i3⟩ := lines_len mode l []
    obtain ⟨k1, _, k3⟩ := lines_len mode l (cur ++ [x])
    have i2 := i2 rfl
    rw [List.length_nil] at i3
    rw [List.length_append, List.length_singleton] at k3
    unfold linesS
    split
    · rw [List.length_cons, List.length_cons]
      refine ⟨by omega, fun _ => by omega, fun t ht => ?_⟩
      rcases List.mem_cons.1 ht with rfl | ht
      · rw [List.length_append, List.length_singleton]; omega
      · have := i3 t ht; omega
    · rw [List.length_cons]
      refine ⟨by omega, fun _ => by omega, fun t ht => ?_⟩
      have := k3 t ht
      omega
theorem lines_by (mode : Int) : ∀ (l cur : List Int), (∀ x ∈ l, 0 ≤ x ∧ x ≤ 255) → (∀ x ∈ cur, 0 ≤ x ∧ x ≤ 255) → ∀ t ∈ linesS mode cur l, ∀ x ∈ t, 0 ≤ x ∧ x ≤ 255
  | [], cur, _, hc => by
    unfold linesS
    split
    · exact fun t ht => by cases ht
    · exact fun t ht => by rw [List.mem_singleton.1 ht]; exact hc
  | x :: l, cur, hl, hc => by
    have hx := hl x (List.mem_cons_self ..)
    have hl' : ∀ y ∈ l, 0 ≤ y ∧ y ≤ 255 := fun y hy => hl y (List.mem_cons_of_mem _ hy)
    have hcx : ∀ y ∈ cur ++ [x], 0 ≤ y ∧ y ≤ 255 := fun y hy => by
      rcases List.mem_append.1 hy with hy | hy
      · exact hc y hy
      · rw [List.mem_singleton.1 hy]; exact hx
    unfold linesS
    split
    · intro t ht
      rcases List.mem_cons.1 ht with rfl | ht
      · exact hcx
      · exact lines_by mode l [] hl' (fun y hy => by cases hy) t ht
    · exact lines_by mode l (cur ++ [x]) hl' hcx
theorem cut_few (mode : Int) {a : List Int} (ha : ∀ x ∈ a, 0 ≤ x ∧ x ≤ 255) (hl : a.length ≤ 40) : Few (cutT mode a) := by
  obtain ⟨_, h2, h3⟩ := lines_len mode a []
  have h2 := h2 rfl
  rw [List.length_nil] at h3
  exact ⟨by show (linesS mode [] a).length ≤ 40; omega, fun t ht => by have := h3 t ht; omega, fun t ht y hy => by have := lines_by mode a [] ha (fun y hy => by cases hy) t ht y hy; omega⟩
theorem idsR_len (d l : List Tok) : (idsR d l).1.length ≤ l.length := by
  unfold idsR
  cases h : idsF d l with
  | none => exact Nat.zero_le _
  | some r => exact Nat.le_of_eq (idsF_len h)
theorem refName_is (k : Nat) (mode : Int) : R12 (k + 1) mode = some (if mode = 0 then ⟨#[98, 121, 116, 101, 115]⟩ else if mode = 1 then ⟨#[108, 105, 110, 101, 115]⟩ else ⟨#[]⟩) := by
  rw [u12]
  unfold r12
  by_cases m0 : mode = 0
  · simp only [decide_eq_true m0, cond_true, if_pos m0]
  · by_cases m1 : mode = 1
    · simp only [decide_eq_false m0, cond_false, decide_eq_true m1, cond_true, if_neg m0, if_pos m1]
    · simp only [decide_eq_false m0, cond_false, decide_eq_false m1, if_neg m0, if_neg m1]
theorem gridB_row0 (a b : List Int) : (Pure.gridB a b).getD 0 [] = Pure.rowB a b 0 := by
  unfold Pure.gridB
  rw [List.getD_eq_getElem?_getD, List.getElem?_map, List.getElem?_range (by omega)]
  rfl
theorem Len_is (n : Nat) (a b : List Int) (ha : a.length ≤ 1000) (hb : b.length ≤ 1000) : R28 (n + 2) a b = some (lcs a b : Int) := by
  rw [u28]
  unfold r28
  have e : R58 (n + 1) a b = some (Pure.gridB a b) := by
    show GridX.behS (a, b) = _
    unfold GridX.behS
    rw [if_pos ⟨ha, hb⟩]
  have hl : (Pure.gridB a b).length = a.length + 1 := by simp [Pure.gridB]
  rw [e, Option.bind_some, if_pos (by omega)]
  simp only [Int.toNat_zero, gridB_row0]
  rw [Pure.row_len, if_pos (by omega), Pure.row_get a b 0 0 (Nat.zero_le _)]
  unfold tabB
  rw [List.drop_zero, List.drop_zero]
theorem Dist_is (n : Nat) (a b : List Int) (ha : a.length ≤ 1000) (hb : b.length ≤ 1000) : R13 (n + 3) a b = some ((a.length : Int) + (b.length : Int) - 2 * (lcs a b : Int)) := by
  rw [u13]
  unfold r13
  have h1 := lcs_le a b
  simp only
  rw [Len_is n a b ha hb, Option.bind_some, w64 (show -9223372036854775808 ≤ (a.length : Int) + (b.length : Int) by omega) (by omega), w64 (show -9223372036854775808 ≤ 2 * (lcs a b : Int) by omega) (by omega), w64 (show -9223372036854775808 ≤ (a.length : Int) + (b.length : Int) - 2 * (lcs a b : Int) by omega) (by omega)]
/-- Both texts' numbers, and what they come to. -/
def distS (mode : Int) (a b : List Int) : Int := ((twoS (cutT mode a) (cutT mode b)).1.length : Int) + ((twoS (cutT mode a) (cutT mode b)).2.1.length : Int) - 2 * (lcs (twoS (cutT mode a) (cutT mode b)).1 (twoS (cutT mode a) (cutT mode b)).2.1 : Int)
def nearS (mode : Int) (a b : List Int) (k : Int) : Int × Int := if (mode = 0 ∨ mode = 1) ∧ 0 ≤ k then (if distS mode a b ≤ k then (distS mode a b, 0) else (0, 3)) else (0, 1)
theorem two_len (mode : Int) {a b : List Int} (fa : Few (cutT mode a)) (fb : Few (cutT mode b)) : (twoS (cutT mode a) (cutT mode b)).1.length ≤ 1000 ∧ (twoS (cutT mode a) (cutT mode b)).2.1.length ≤ 1000 := by
  have h1 := idsR_len (dsort (cutT mode a ++ cutT mode b)) (cutT mode a)
  have h2 := idsR_len (dsort (cutT mode a ++ cutT mode b)) (cutT mode b)
  have h3 := fa.n
  have h4 := fb.n
  exact ⟨by show (idsR _ _).1.length ≤ 1000; omega, by show (idsR _ _).1.length ≤ 1000; omega⟩
theorem PNear_is (mode : Int) (a b : List Int) (k : Int) (ha : ∀ x ∈ a, 0 ≤ x ∧ x ≤ 255) (hb : ∀ x ∈ b, 0 ≤ x ∧ x ≤ 255) (la : a.length ≤ 40) (lb : b.length ≤ 40) (hk : k ≤ 9223372036854775807) : R5 4000 mode a b k = some (nearS mode a b k) := by
  rw [u5]
  unfold r5 nearS
  by_cases k0 : k < 0
  · rw [decide_eq_true k0, cond_true, if_neg (by omega)]
  · rw [decide_eq_false k0, cond_false, u10]
    unfold r10
    rw [Cut_is 3995 mode a ha (by omega) (by omega), Cut_is 3995 mode b hb (by omega) (by omega)]
    by_cases hm : mode = 0 ∨ mode = 1
    · have fa := cut_few mode ha la
      have fb := cut_few mode hb lb
      obtain ⟨t1, t2⟩ := two_len mode fa fb
      obtain ⟨p, s, e1, _⟩ := Of_is 3997 (twoS (cutT mode a) (cutT mode b)).1 (twoS (cutT mode a) (cutT mode b)).2.1 t1 t2 (by omega)
      obtain ⟨uu, vv, e2, l1, l2, e3⟩ := Mid_is 3996 (twoS (cutT mode a) (cutT mode b)).1 (twoS (cutT mode a) (cutT mode b)).2.1 t1 t2 (by omega)
      obtain ⟨st, e4⟩ := Within_is 3996 uu vv k (by omega) (by omega) (by omega) hk (by omega)
      rw [e3] at e4
      have e4 : R11 3999 uu vv k = some (if distS mode a b ≤ k then (distS mode a b, st, 0) else (0, 0, 3)) := e4
      have hc : (mode = 0 ∨ mode = 1) ∧ 0 ≤ k := ⟨hm, by omega⟩
      by_cases c : distS mode a b ≤ k
      · rw [if_pos c] at e4
        simp only [if_pos hm, Option.bind_some, decide_true, Bool.not_true, cond_false, two_is 3988 (by omega) _ _ fa fb, e1, e2, e4]
        rw [if_pos hc, if_pos c]
      · rw [if_neg c] at e4
        simp only [if_pos hm, Option.bind_some, decide_true, Bool.not_true, cond_false, two_is 3988 (by omega) _ _ fa fb, e1, e2, e4]
        rw [if_pos hc, if_neg c]
    · have hnc : ¬ ((mode = 0 ∨ mode = 1) ∧ 0 ≤ k) := fun h => hm h.1
      rw [if_neg hm, if_neg hm, if_neg hnc]
      rfl
theorem RNear_is (mode : Int) (a b : List Int) (k : Int) (ha : ∀ x ∈ a, 0 ≤ x ∧ x ≤ 255) (hb : ∀ x ∈ b, 0 ≤ x ∧ x ≤ 255) (la : a.length ≤ 40) (lb : b.length ≤ 40) : R6 4000 mode a b k = some (nearS mode a b k) := by
  rw [u6]
  unfold r6 nearS
  rw [refName_is 3998 mode, Option.bind_some]
  by_cases hm : mode = 0 ∨ mode = 1
  · have hs : strEq (if mode = 0 then ⟨#[98, 121, 116, 101, 115]⟩ else if mode = 1 then ⟨#[108, 105, 110, 101, 115]⟩ else ⟨#[]⟩) (⟨#[]⟩ : ByteArray) = false := by rcases hm with rfl | rfl <;> rfl
    simp only [hs, beq_self_eq_true, cond_true]
    by_cases k0 : k < 0
    · rw [decide_eq_true k0, cond_true, if_neg (by omega)]
    · have fa := cut_few mode ha la
      have fb := cut_few mode hb lb
      obtain ⟨t1, t2⟩ := two_len mode fa fb
      have c1 : R30 3998 mode a = some (cutT mode a) := by
        rw [u30]
        unfold r30
        rw [RefCut_is 3996 mode a (by omega) (by omega), if_pos hm, Option.bind_some]
      have c2 : R30 3998 mode b = some (cutT mode b) := by
        rw [u30]
        unfold r30
        rw [RefCut_is 3996 mode b (by omega) (by omega), if_pos hm, Option.bind_some]
      have nn : R14 3999 mode a b = some ((twoS (cutT mode a) (cutT mode b)).1, (twoS (cutT mode a) (cutT mode b)).2.1) := by
        rw [u14]
        unfold r14
        rw [c1, c2, Option.bind_some, Option.bind_some, rtwo_is 3988 (by omega) _ _ fa fb, Option.bind_some]
      rw [decide_eq_false k0, cond_false, nn, Option.bind_some, Dist_is 3996 _ _ t1 t2, Option.bind_some, if_pos ⟨hm, by omega⟩]
      show (bif decide (distS mode a b > k) then some ((0 : Int), (3 : Int)) else some (distS mode a b, (0 : Int))) = _
      by_cases c : distS mode a b ≤ k
      · rw [decide_eq_false (by omega), if_pos c]; rfl
      · rw [decide_eq_true (by omega), if_neg c]; rfl
  · rw [if_neg (fun h => hm (.inl h)), if_neg (fun h => hm (.inr h)), if_neg (fun h => hm h.1)]
    rfl
theorem law (mode : Int) (a b : List Int) (k : Int) (w1 : WF (.slice (.int .u8)) a) (w2 : WF (.slice (.int .u8)) b) (w3 : WF (.int .i64) k) : R3 4001 mode a b k = some true := by
  have ha : ∀ x ∈ a, 0 ≤ x ∧ x ≤ 255 := fun x hx => wf_u8 (w1.2 x hx)
  have hb : ∀ x ∈ b, 0 ≤ x ∧ x ≤ 255 := fun x hx => wf_u8 (w2.2 x hx)
  have hk := wf_i64 w3
  rw [u3]
  unfold r3
  rw [awake, Option.bind_some]
  simp only [Bool.not_true, cond_false]
  by_cases h : a.length ≤ 40
  · rw [decide_eq_false (show ¬ (a.length : Int) > 40 by omega), beq_self_eq_true, cond_true]
    by_cases h2 : b.length ≤ 40
    · rw [decide_eq_false (show ¬ (b.length : Int) > 40 by omega), cond_false, PNear_is mode a b k ha hb h h2 hk.2, Option.bind_some, RNear_is mode a b k ha hb h h2, Option.bind_some]
      simp only [decide_true, beq_self_eq_true, cond_true]
    · rw [decide_eq_true (show (b.length : Int) > 40 by omega), cond_true]
  · rw [decide_eq_true (show (a.length : Int) > 40 by omega)]
    rfl
theorem law_run (a0 : Int) (w0 : WF (.int .i64) a0) (a1 : List Int) (w1 : WF (.slice (.int .u8)) a1) (a2 : List Int) (w2 : WF (.slice (.int .u8)) a2) (a3 : Int) (w3 : WF (.int .i64) a3) : runHow E (evalF E 4000) 4000 s3 (a0, a1, a2, a3) h3 = some true :=
  (law_R 4000 a0 a1 a2 a3).trans (law a0 a1 a2 a3 w1 w2 w3)
end Go.Proofs.YtgelkklendpeoaaGreat.EPortNear
