import Derived.Test.YtanjfijhekhbfaaNamNamesOrder
namespace Go.Proofs.Ytanjfijhekhbfaa.ENamesOrder
open Go Go.Proofs.Ytanjfijhekhbfaa.AE Go.Proofs.Ytanjfijhekhbfaa Go.Proofs.Ytanjfijhekhbfaa.NameX
set_option linter.unusedVariables false
set_option linter.unusedSimpArgs false
theorem awake : R13 1300 () = some true := by kernel_rfl
theorem in_loop (a b : List (List Int)) (x y : List Int) (d : List (List Int)) (hs : SS d) (A : Few a) (B : Few b) (hx : idsF d a = some x) (hy : idsF d b = some y) (i : Nat) (hi : i < a.length) : ∀ (m j : Nat), b.length - j < m → j ≤ b.length →
    J7_0 1300 m (a, b, x, y, (i : Int), (j : Int)) = some (.inl (a, b, x, y, (i : Int), (b.length : Int)))
  | 0, j, h, _ => by omega
  | m + 1, j, hm, hj => by
    rw [j7_0]
    unfold F7_0
    simp only
    have hxl := idsF_len hx
    have hyl := idsF_len hy
    have an := A.n
    have bn := B.n
    by_cases h : j < b.length
    · have c1 : 0 ≤ (i : Int) ∧ (i : Int) < (x.length : Int) := ⟨by omega, by omega⟩
      have c2 : 0 ≤ (j : Int) ∧ (j : Int) < (y.length : Int) := ⟨by omega, by omega⟩
      have c3 : 0 ≤ (i : Int) ∧ (i : Int) < (a.length : Int) := ⟨by omega, by omega⟩
      have c4 : 0 ≤ (j : Int) ∧ (j : Int) < (b.length : Int) := ⟨by omega, by omega⟩
      have ix : i < x.length := by omega
      have jy : j < y.length := by omega
      obtain ⟨k, k1, k2⟩ := idsF_get hx (List.getElem?_eq_getElem hi)
      obtain ⟨q, q1, q2⟩ := idsF_get hy (List.getElem?_eq_getElem h)
      have gx : x[i] = (k : Int) := by rw [List.getElem?_eq_getElem ix] at k1; exact Option.some.inj k1
      have gy : y[j] = (q : Int) := by rw [List.getElem?_eq_getElem jy] at q1; exact Option.some.inj q1
      rw [decide_eq_true (show (j : Int) < (b.length : Int) by omega), cond_true]
      simp only [if_pos c1, if_pos c2, if_pos c3, if_pos c4, getD_n x ix, getD_n y jy, getD_n a hi, getD_n b h, gx, gy]
      rw [same_is 1299 _ _ (A.b _ (List.getElem_mem hi)) (B.b _ (List.getElem_mem h)), Option.bind_some]
      have p1 := pos_get k2
      have p2 := pos_get q2
      have al := A.t _ (List.getElem_mem hi)
      have e1 : decide ((k : Int) = (q : Int)) = decide (a[i] = b[j]) := by
        rw [Bool.eq_iff_iff]
        simp only [decide_eq_true_eq]
        constructor
        · intro e
          obtain rfl : k = q := by omega
          rw [p1] at p2
          exact Option.some.inj p2
        · intro e
          rw [e] at k2
          rw [k2] at q2
          cases q2; rfl
      have e2 : decide ((k : Int) < (q : Int)) = decide (cmpL a[i] b[j] < 0) := by
        rw [Bool.eq_iff_iff]
        simp only [decide_eq_true_eq]
        constructor
        · intro e
          exact ss_lt hs p1 p2 (by omega)
        · intro e
          rcases Nat.lt_trichotomy k q with z | z | z
          · omega
          · subst z
            rw [p1] at p2
            have e5 := Option.some.inj p2
            rw [e5, cmpL_refl] at e
            omega
          · have z1 := ss_lt hs p2 p1 z
            rw [cmpL_neg] at z1
            omega
      simp only [e1, beq_self_eq_true, Bool.not_true, cond_true]
      rw [below_is 1299 _ _ (by omega) (by omega), Option.bind_some]
      simp only [e2, beq_self_eq_true, Bool.not_true, cond_false, succ_n h (show b.length ≤ 1099511627776 by omega)]
      exact in_loop a b x y d hs A B hx hy i hi m (j + 1) (by omega) h
    · obtain rfl : j = b.length := by omega
      rw [decide_eq_false (show ¬ (b.length : Int) < (b.length : Int) by omega)]
      rfl
theorem out_loop (a b : List (List Int)) (x y : List Int) (d : List (List Int)) (hs : SS d) (A : Few a) (B : Few b) (hx : idsF d a = some x) (hy : idsF d b = some y) : ∀ (m i : Nat), a.length - i < m → i ≤ a.length →
    J7_1 1300 m (a, b, x, y, (i : Int)) = some (.inl (a, b, x, y, (a.length : Int)))
  | 0, i, h, _ => by omega
  | m + 1, i, hm, hi => by
    rw [j7_1]
    unfold F7_1
    simp only
    have an := A.n
    have bn := B.n
    by_cases h : i < a.length
    · have e : J7_0 1300 1300 (a, b, x, y, (i : Int), 0) = _ := in_loop a b x y d hs A B hx hy i h 1300 0 (by omega) (by omega)
      rw [decide_eq_true (show (i : Int) < (a.length : Int) by omega), cond_true, e, Option.bind_some]
      simp only [onSum, succ_n h (show a.length ≤ 1099511627776 by omega)]
      exact out_loop a b x y d hs A B hx hy m (i + 1) (by omega) h
    · obtain rfl : i = a.length := by omega
      rw [decide_eq_false (show ¬ (a.length : Int) < (a.length : Int) by omega)]
      rfl
theorem law (a b : List (List Int)) (w0 : WF (.slice (.slice (.int .u8))) a) (w1 : WF (.slice (.slice (.int .u8))) b) : R7 1301 a b = some true := by
  rw [u7]
  unfold r7
  dsimp only
  rw [awake, Option.bind_some]
  simp only [Bool.not_true, cond_false]
  rw [few2_is 1299 (by omega), Option.bind_some]
  cases hf : (decide (a.length ≤ 40) && fewL 40 a) with
  | false => rfl
  | true =>
    have A := few_of hf (byts_wf w0)
    simp only [Bool.not_true, beq_self_eq_true, cond_true]
    rw [few2_is 1299 (by omega), Option.bind_some]
    cases hg : (decide (b.length ≤ 40) && fewL 40 b) with
    | false => rfl
    | true =>
      have B := few_of hg (byts_wf w1)
      have hl : (a ++ b).length ≤ 80 := by rw [List.length_append]; have := A.n; have := B.n; omega
      have hd := dsort_len (a ++ b)
      obtain ⟨x, hx⟩ := idsF_some (d := dsort (a ++ b)) a (fun t ht => (dsort_mem _ _).2 (List.mem_append.2 (.inl ht)))
      obtain ⟨y, hy⟩ := idsF_some (d := dsort (a ++ b)) b (fun t ht => (dsort_mem _ _).2 (List.mem_append.2 (.inr ht)))
      have hxl := idsF_len hx
      have hyl := idsF_len hy
      have an := A.n
      have bn := B.n
      have e2 : twoS a b = (x, y, ((dsort (a ++ b)).length : Int)) := by rw [twoS, idsR, idsR, hx, hy]
      simp only [Bool.not_true, cond_false]
      rw [two_is 1290 (by omega) a b A B, Option.bind_some, e2]
      have e : J7_1 1300 1300 (a, b, x, y, 0) = _ := out_loop a b x y _ (dsort_ss _) A B hx hy 1300 0 (by omega) (by omega)
      simp only [hxl, hyl, decide_true, Bool.not_true, beq_self_eq_true, cond_true, cond_false]
      rw [e]
      rfl
theorem law_run (a0 : List (List Int)) (w0 : WF (.slice (.slice (.int .u8))) a0) (a1 : List (List Int)) (w1 : WF (.slice (.slice (.int .u8))) a1) : runHow E (evalF E 1300) 1300 s7 (a0, a1) h7 = some true :=
  (law_R 1300 a0 a1).trans (law a0 a1 w0 w1)
end Go.Proofs.Ytanjfijhekhbfaa.ENamesOrder
