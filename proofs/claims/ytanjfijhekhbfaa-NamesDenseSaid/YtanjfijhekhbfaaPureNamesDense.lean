import Derived.Test.YtanjfijhekhbfaaNamNamesDense
namespace Go.Proofs.Ytanjfijhekhbfaa.ENamesDense
open Go Go.Proofs.Ytanjfijhekhbfaa.AE Go.Proofs.Ytanjfijhekhbfaa Go.Proofs.Ytanjfijhekhbfaa.NameX
set_option linter.unusedVariables false
set_option linter.unusedSimpArgs false
theorem awake : R13 1300 () = some true := by kernel_rfl
theorem set_loop (n : Nat) (al : List Int) (hn : n ≤ 80) (hal : al.length ≤ 80) (hr : ∀ (i : Nat) (z : Int), al[i]? = some z → 0 ≤ z ∧ z < (n : Int)) : ∀ (m i : Nat) (s : List Bool), al.length - i < m → i ≤ al.length → s.length = n →
    (∀ (p : Nat) (z : Int), p < i → al[p]? = some z → s[z.toNat]? = some true) →
    ∃ s', J8_0 1300 m ((n : Int), (i : Int), s, al) = some (.inl ((n : Int), (al.length : Int), s', al)) ∧ s'.length = n ∧ ∀ (p : Nat) (z : Int), al[p]? = some z → s'[z.toNat]? = some true
  | 0, i, s, h, _, _, _ => by omega
  | m + 1, i, s, hm, hi, hs, hp => by
    rw [j8_0]
    unfold F8_0
    simp only
    by_cases h : i < al.length
    · have c1 : 0 ≤ (i : Int) ∧ (i : Int) < (al.length : Int) := ⟨by omega, by omega⟩
      have hz := hr i al[i] (List.getElem?_eq_getElem h)
      have hg : al[i]? = some al[i] := List.getElem?_eq_getElem h
      rw [decide_eq_true (show (i : Int) < (al.length : Int) by omega), cond_true]
      simp only [if_pos c1, getD_n al h]
      generalize al[i] = z at *
      rw [decide_eq_false (show ¬ z < 0 by omega), decide_eq_false (show ¬ z ≥ (n : Int) by omega)]
      simp only [beq_self_eq_true, cond_true, cond_false]
      rw [if_pos ⟨hz.1, by rw [hs]; exact hz.2⟩, succ_n h (show al.length ≤ 1099511627776 by omega)]
      refine set_loop n al hn hal hr m (i + 1) _ (by omega) h (by rw [List.length_set]; exact hs) (fun p z' hpi hz' => ?_)
      by_cases e : z.toNat = z'.toNat
      · rw [e, List.getElem?_set_self (by have := hr p z' hz'; omega)]
      · rw [List.getElem?_set_ne e]
        by_cases e2 : p = i
        · subst e2
          rw [hg] at hz'
          cases hz'
          exact absurd rfl e
        · exact hp p z' (by omega) hz'
    · obtain rfl : i = al.length := by omega
      rw [decide_eq_false (show ¬ (al.length : Int) < (al.length : Int) by omega)]
      exact ⟨s, rfl, hs, fun p z hz => hp p z (List.getElem?_eq_some_iff.1 hz).1 hz⟩
theorem see_loop (n : Nat) (hn : n ≤ 80) (s : List Bool) (hs : s.length = n) (ht : ∀ i, i < n → s[i]? = some true) : ∀ (m i : Nat), n - i < m → i ≤ n →
    J8_1 1300 m ((n : Int), (i : Int), s) = some (.inl ((n : Int), (n : Int), s))
  | 0, i, h, _ => by omega
  | m + 1, i, hm, hi => by
    rw [j8_1]
    unfold F8_1
    simp only
    by_cases h : i < n
    · have c1 : 0 ≤ (i : Int) ∧ (i : Int) < (s.length : Int) := ⟨by omega, by omega⟩
      have his : i < s.length := by omega
      have e := ht i h
      rw [List.getElem?_eq_getElem his] at e
      rw [decide_eq_true (show (i : Int) < (n : Int) by omega), cond_true, if_pos c1, getD_n s his, Option.some.inj e, succ_n h (show n ≤ 1099511627776 by omega)]
      simp only [Bool.not_true, cond_false]
      exact see_loop n hn s hs ht m (i + 1) (by omega) h
    · obtain rfl : i = n := by omega
      rw [decide_eq_false (show ¬ (i : Int) < (i : Int) by omega)]
      rfl
theorem law (a b : List (List Int)) (w0 : WF (.slice (.slice (.int .u8))) a) (w1 : WF (.slice (.slice (.int .u8))) b) : R8 1301 a b = some true := by
  rw [u8]
  unfold r8
  dsimp only
  rw [awake, Option.bind_some]
  simp only [Bool.not_true, cond_false]
  rw [few2_is 1299 (by omega), Option.bind_some]
  cases hf : (decide (a.length ≤ 40) && fewL 40 a) with
  | false => rfl
  | true =>
    have A := few_of hf (byts_wf w0)
    simp only [Bool.not_true, beq_self_eq_true, cond_true]
    rw [few2_is 1299 (by omega), Option.bind_some]
    cases hg : (decide (b.length ≤ 40) && fewL 40 b) with
    | false => rfl
    | true =>
      have B := few_of hg (byts_wf w1)
      have hl : (a ++ b).length ≤ 80 := by rw [List.length_append]; have := A.n; have := B.n; omega
      have hd := dsort_len (a ++ b)
      obtain ⟨x, hx⟩ := idsF_some (d := dsort (a ++ b)) a (fun t ht => (dsort_mem _ _).2 (List.mem_append.2 (.inl ht)))
      obtain ⟨y, hy⟩ := idsF_some (d := dsort (a ++ b)) b (fun t ht => (dsort_mem _ _).2 (List.mem_append.2 (.inr ht)))
      have hxl := idsF_len hx
      have hyl := idsF_len hy
      have an := A.n
      have bn := B.n
      have e2 : twoS a b = (x, y, ((dsort (a ++ b)).length : Int)) := by rw [twoS, idsR, idsR, hx, hy]
      simp only [Bool.not_true, cond_false]
      rw [two_is 1290 (by omega) a b A B, Option.bind_some, e2]
      have hs := dsort_ss (a ++ b)
      have hm := dsort_mem (a ++ b)
      generalize dsort (a ++ b) = d at *
      rw [decide_eq_false (show ¬ (d.length : Int) < 0 by omega), decide_eq_false (show ¬ (d.length : Int) > 80 by omega)]
      simp only [hxl, hyl, decide_true, Bool.not_true, beq_self_eq_true, cond_true, cond_false, List.length_nil, List.nil_append, List.length_append]
      rw [if_pos ⟨by omega, by omega, by omega, by omega⟩, if_pos ⟨by omega, by omega⟩, if_pos ⟨by omega, by omega⟩, Int.toNat_natCast]
      have at_x : ∀ (i : Nat) (z : Int), (x ++ y)[i]? = some z → ∃ (t : List Int) (k : Nat), z = (k : Int) ∧ pos t d = some k := by
        intro i z hz
        by_cases hi : i < x.length
        · rw [List.getElem?_append_left hi] at hz
          obtain ⟨k, k1, k2⟩ := idsF_get hx (List.getElem?_eq_getElem (show i < a.length by omega))
          rw [k1] at hz; cases hz
          exact ⟨_, k, rfl, k2⟩
        · rw [List.getElem?_append_right (by omega)] at hz
          have hiy := (List.getElem?_eq_some_iff.1 hz).1
          obtain ⟨k, k1, k2⟩ := idsF_get hy (List.getElem?_eq_getElem (show i - x.length < b.length by omega))
          rw [k1] at hz; cases hz
          exact ⟨_, k, rfl, k2⟩
      obtain ⟨s', q1, q2, q3⟩ := set_loop d.length (x ++ y) (by omega) (by rw [List.length_append]; omega) (fun i z hz => by
        obtain ⟨t, k, rfl, hk⟩ := at_x i z hz
        have := pos_lt hk
        omega) 1300 0 (List.replicate d.length false) (by rw [List.length_append]; omega) (by omega) (by simp) (fun p z h => by omega)
      have q1' : J8_0 1300 1300 ((d.length : Int), 0, List.replicate d.length false, x ++ y) = _ := q1
      rw [q1', Option.bind_some]
      simp only [onSum]
      have q4 : J8_1 1300 1300 ((d.length : Int), 0, s') = _ := see_loop d.length (by omega) s' q2 (fun i hi => by
        have hg : d[i]? = some d[i] := List.getElem?_eq_getElem hi
        have hp := pos_of hs hg
        have hin := (hm d[i]).1 (List.getElem_mem hi)
        generalize d[i] = t at *
        rcases List.mem_append.1 hin with h | h
        · obtain ⟨p, hp1, e⟩ := List.getElem_of_mem h
          obtain ⟨k, k1, k2⟩ := idsF_get hx (List.getElem?_eq_getElem hp1)
          rw [e, hp] at k2
          cases k2
          have k3 : (x ++ y)[p]? = some ((i : Nat) : Int) := by rw [List.getElem?_append_left (by omega)]; exact k1
          have := q3 p _ k3
          rwa [Int.toNat_natCast] at this
        · obtain ⟨p, hp1, e⟩ := List.getElem_of_mem h
          obtain ⟨k, k1, k2⟩ := idsF_get hy (List.getElem?_eq_getElem hp1)
          rw [e, hp] at k2
          cases k2
          have k3 : (x ++ y)[x.length + p]? = some ((i : Nat) : Int) := by rw [List.getElem?_append_right (by omega), Nat.add_sub_cancel_left]; exact k1
          have := q3 _ _ k3
          rwa [Int.toNat_natCast] at this) 1300 0 (by omega) (by omega)
      rw [q4]
      rfl
theorem law_run (a0 : List (List Int)) (w0 : WF (.slice (.slice (.int .u8))) a0) (a1 : List (List Int)) (w1 : WF (.slice (.slice (.int .u8))) a1) : runHow E (evalF E 1300) 1300 s8 (a0, a1) h8 = some true :=
  (law_R 1300 a0 a1).trans (law a0 a1 w0 w1)
end Go.Proofs.Ytanjfijhekhbfaa.ENamesDense
