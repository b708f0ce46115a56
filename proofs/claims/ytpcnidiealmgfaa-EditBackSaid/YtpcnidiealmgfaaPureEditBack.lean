import Derived.Test.YtpcnidiealmgfaaLeaEditBack
namespace Go.Proofs.Ytpcnidiealmgfaa.EEditBack
open Go Go.Proofs.Ytpcnidiealmgfaa.AE Go.Proofs.Ytpcnidiealmgfaa Go.Proofs.Ytpcnidiealmgfaa.NameX
set_option linter.unusedVariables false
set_option linter.unusedSimpArgs false
theorem awake : R10 1300 () = some true := by kernel_rfl
theorem ne0 (n : Nat) (a b : List Tok) (l : List Pr) (ha : a.length ≤ 1000) : ∀ (m i : Nat), a.length - i < m → i ≤ a.length →
    J7_0 n m (a, b, l, (i : Int)) = some (bif (a.drop i).all (fun t => decide (t.length ≠ 0)) then .inl (a, b, l, (a.length : Int)) else .inr true)
  | 0, i, h, _ => by omega
  | m + 1, i, hm, hi => by
    rw [j7_0]
    unfold F7_0
    simp only
    by_cases h : i < a.length
    · have hd : a.drop i = a[i] :: a.drop (i + 1) := List.drop_eq_getElem_cons h
      have h2 : (0 ≤ (i : Int) ∧ (i : Int) < (a.length : Int)) := ⟨by omega, by omega⟩
      have ih := ne0 n a b l ha m (i + 1) (by omega) h
      rw [hd, List.all_cons, decide_eq_true (show (i : Int) < (a.length : Int) by omega), cond_true, if_pos h2, getD_n a h, succ_n h (by omega)]
      by_cases z : a[i].length = 0
      · rw [decide_eq_true (show ((a[i].length : Nat) : Int) = 0 by omega), decide_eq_false (show ¬ (a[i].length ≠ 0) by omega)]
        rfl
      · rw [decide_eq_false (show ¬ ((a[i].length : Nat) : Int) = 0 by omega), decide_eq_true (show a[i].length ≠ 0 by omega), Bool.true_and]
        exact ih
    · obtain rfl : i = a.length := by omega
      rw [decide_eq_false (show ¬ (a.length : Int) < (a.length : Int) by omega), List.drop_length]
      rfl
theorem ne1 (n : Nat) (a b : List Tok) (l : List Pr) (hb : b.length ≤ 1000) : ∀ (m i : Nat), b.length - i < m → i ≤ b.length →
    J7_1 n m (a, b, l, (i : Int)) = some (bif (b.drop i).all (fun t => decide (t.length ≠ 0)) then .inl (a, b, l, (b.length : Int)) else .inr true)
  | 0, i, h, _ => by omega
  | m + 1, i, hm, hi => by
    rw [j7_1]
    unfold F7_1
    simp only
    by_cases h : i < b.length
    · have hd : b.drop i = b[i] :: b.drop (i + 1) := List.drop_eq_getElem_cons h
      have h2 : (0 ≤ (i : Int) ∧ (i : Int) < (b.length : Int)) := ⟨by omega, by omega⟩
      have ih := ne1 n a b l hb m (i + 1) (by omega) h
      rw [hd, List.all_cons, decide_eq_true (show (i : Int) < (b.length : Int) by omega), cond_true, if_pos h2, getD_n b h, succ_n h (by omega)]
      by_cases z : b[i].length = 0
      · rw [decide_eq_true (show ((b[i].length : Nat) : Int) = 0 by omega), decide_eq_false (show ¬ (b[i].length ≠ 0) by omega)]
        rfl
      · rw [decide_eq_false (show ¬ ((b[i].length : Nat) : Int) = 0 by omega), decide_eq_true (show b[i].length ≠ 0 by omega), Bool.true_and]
        exact ih
    · obtain rfl : i = b.length := by omega
      rw [decide_eq_false (show ¬ (b.length : Int) < (b.length : Int) by omega), List.drop_length]
      rfl
theorem fin (a b : List Tok) (A : Few a) (B : Few b) (an : a.length ≤ 30) (bn : b.length ≤ 30) (hA : ∀ t ∈ a, t.length ≠ 0) (hB : ∀ t ∈ b, t.length ≠ 0) (l : List Pr) (hl : l.length ≤ 30) (hg : goodP (twoS a b).1 (twoS a b).2.1 (-1) (-1) l = true) :
    (Option.bind (R8 1300 a b l) fun y33 => Option.bind (R9 1300 (a.length : Int) y33.1) fun y35 => Option.bind (R17 1300 y33.1) fun y36 =>
      bif decide (y33.2 = (0 : Int)) == true then bif decide (y35.2 = (0 : Int)) == true then Option.bind (R11 1300 y33.1) fun y39 => bif y39 == true then Option.bind (R12 1300 y35.1 l) fun y40 =>
      bif y40 == true then bif decide (y36.1 = IntKind.wrap .i64 ((a.length : Int) - (l.length : Int))) == true then some (decide (y36.2 = IntKind.wrap .i64 ((b.length : Int) - (l.length : Int)))) else some false else some false else some false else some false else some false) = some true := by
  obtain ⟨t1, t2⟩ := twoS_len A B
  have hg0 : goodP (twoS a b).1 (twoS a b).2.1 ((0 : Int) - 1) ((0 : Int) - 1) l = true := hg
  have hm : makeS a b l = (mkS a b 0 0 l, 0) := by unfold makeS; rw [hg]; rfl
  have hlen := mkS_len a b l 0 0
  have hlim : Lim 30 (mkS a b 0 0 l) := mkS_lim an bn l 0 0
  have hgb := mkS_good a b hA hB (by omega) _ _ t1 t2 l 0 0 (-1) hg0 (by omega) (by omega) (by omega) (by omega) (by omega)
  have hpr : prS (a.length : Int) 0 0 [] (mkS a b 0 0 l) = (l, 0) := by
    have := mkS_pairs a b _ _ t1 t2 l 0 0 0 [] (by simpa using hg0) (by omega) (by omega) (by simp) (by simp)
    simpa [run] using this
  have hdel := mkS_del a b _ _ t1 t2 l 0 0 hg0 (by omega) (by omega) (by omega) (by omega)
  obtain ⟨dl1, dl2⟩ := del_le (mkS a b 0 0 l) hlim
  have hps : pairsS (a.length : Int) (mkS a b 0 0 l) = (l, 0) := by
    unfold pairsS
    rw [hgb, cond_true, if_neg (by omega), if_neg (by omega), hpr]
  have w1 : IntKind.wrap .i64 ((a.length : Int) - (l.length : Int)) = (a.length : Int) - (l.length : Int) := w64 (by omega) (by omega)
  have w2 : IntKind.wrap .i64 ((b.length : Int) - (l.length : Int)) = (b.length : Int) - (l.length : Int) := w64 (by omega) (by omega)
  rw [make_is 1289 (by omega) a b A B l hl, Option.bind_some, hm]
  simp only
  rw [pairs_is40 1298 (by omega) (a.length : Int) (.inl (by omega)) _ (by omega) hlim, Option.bind_some, hps,
    count_is 1299 _ (by omega) (by omega) (by omega) (by omega), Option.bind_some]
  simp only [decide_true, beq_self_eq_true, cond_true]
  rw [good_is 1298 30 _ (by omega) (by omega) (by omega) (by omega) hlim, Option.bind_some, hgb]
  simp only [beq_self_eq_true, cond_true]
  rw [sprs_is 1299 l (by omega) (by omega), Option.bind_some, w1, w2, decide_eq_true (show (delN (mkS a b 0 0 l) : Int) = (a.length : Int) - (l.length : Int) by omega), decide_eq_true (show (insN (mkS a b 0 0 l) : Int) = (b.length : Int) - (l.length : Int) by omega)]
  rfl
theorem law (a b : List Tok) (l : List Pr) (w0 : WF (.slice (.slice (.int .u8))) a) (w1 : WF (.slice (.slice (.int .u8))) b) : R7 1301 a b l = some true := by
  rw [u7]
  unfold r7
  dsimp only
  rw [awake, Option.bind_some]
  simp only [Bool.not_true, cond_false]
  rw [few24_is 1299 (by omega), Option.bind_some, few24_is 1299 (by omega)]
  cases hf : fewB a with
  | false => rfl
  | true =>
    obtain ⟨A, an⟩ := few24_of hf (byts_wf w0)
    simp only [Bool.not_true, beq_self_eq_true, cond_true, Option.bind_some]
    cases hg : fewB b with
    | false => rfl
    | true =>
      obtain ⟨B, bn⟩ := few24_of hg (byts_wf w1)
      simp only [Bool.not_true, beq_self_eq_true, cond_true]
      by_cases c : (l.length : Int) > 30
      · rw [decide_eq_true c, cond_true]
      · rw [decide_eq_false c, cond_false]
        have e0 : J7_0 1300 1300 (a, b, l, 0) = _ := ne0 1300 a b l (by omega) 1300 0 (by omega) (by omega)
        have e1 : J7_1 1300 1300 (a, b, l, 0) = _ := ne1 1300 a b l (by omega) 1300 0 (by omega) (by omega)
        rw [List.drop_zero] at e0 e1
        rw [e0]
        cases hA : a.all (fun t => decide (t.length ≠ 0)) with
        | false => rfl
        | true =>
          simp only [cond_true, Option.bind_some, onSum]
          rw [e1]
          cases hB : b.all (fun t => decide (t.length ≠ 0)) with
          | false => rfl
          | true =>
            have hA' : ∀ t ∈ a, t.length ≠ 0 := fun t ht => of_decide_eq_true (List.all_eq_true.1 hA t ht)
            have hB' : ∀ t ∈ b, t.length ≠ 0 := fun t ht => of_decide_eq_true (List.all_eq_true.1 hB t ht)
            simp only [cond_true, Option.bind_some, onSum]
            obtain ⟨t1, t2⟩ := twoS_len A B
            rw [rtwo_is 1290 (by omega) a b A B, Option.bind_some, p7good_is 1299 _ _ l (by omega) (by omega), Option.bind_some]
            cases hgd : goodP (twoS a b).1 (twoS a b).2.1 (-1) (-1) l with
            | true =>
              simp only [Bool.not_true, cond_false]
              exact fin a b A B an bn hA' hB' l (by omega) hgd
            | false =>
              simp only [Bool.not_false, cond_true]
              obtain ⟨r, r1, r2, r3⟩ := least_is 1298 (twoS a b).1 (twoS a b).2.1 (by omega) (by omega) (by omega)
              rw [r3, Option.bind_some]
              exact fin a b A B an bn hA' hB' r (by omega) r1
theorem law_run (a0 : List Tok) (w0 : WF (.slice (.slice (.int .u8))) a0) (a1 : List Tok) (w1 : WF (.slice (.slice (.int .u8))) a1) (a2 : List Pr) (w2 : WF PrT a2) : runHow E (evalF E 1300) 1300 s7 (a0, a1, a2) h7 = some true :=
  (law_R 1300 a0 a1 a2).trans (law a0 a1 a2 w0 w1)
end Go.Proofs.Ytpcnidiealmgfaa.EEditBack
