import Derived.Test.YtgelkklendpeoaaGreatResPortNear
import Derived.Test.YtgelkklendpeoaaGreatResKit
import Derived.Test.YtgelkklendpeoaaGreatBandP
namespace Go.Proofs.YtgelkklendpeoaaGreat.EPortNear
open Go Go.RowKit Go.Proofs.YtgelkklendpeoaaGreat.AE Go.Proofs.YtgelkklendpeoaaGreat Go.Proofs.YtgelkklendpeoaaGreat.Lcs Go.Proofs.YtgelkklendpeoaaGreat.BandN
set_option linter.unusedVariables false
set_option linter.unusedSimpArgs false
/-! What both ends have alike is taken away: the distance is the same. -/
theorem lcs_pre (p : List Int) (a b : List Int) : lcs (p ++ a) (p ++ b) = p.length + lcs a b := by
  induction p with
  | nil => simp
  | cons x p ih => rw [List.cons_append, List.cons_append, lcs_cons, if_pos rfl, ih, List.length_cons]; omega
theorem lcs_suf (s : List Int) (a b : List Int) : lcs (a ++ s) (b ++ s) = s.length + lcs a b := by
  rw [← lcs_rev (a ++ s) (b ++ s), List.reverse_append, List.reverse_append, lcs_pre, lcs_rev, List.length_reverse]
theorem getD_k {α : Type} (l : List α) {i : Nat} (h : i < l.length) (d : α) : l.getD ((i : Nat) : Int).toNat d = l[i] := by
  simp [List.getD, List.getElem?_eq_getElem h]
theorem succ_k {n i : Nat} (h : i < n) (hn : n ≤ 1099511627776) : IntKind.wrap .i64 ((i : Int) + 1) = ((i + 1 : Nat) : Int) := by rw [w64 (by omega) (by omega)]; omega
theorem of0 (n : Nat) (a b : List Int) (ha : a.length ≤ 1000) (s : Int) : ∀ (m p : Nat), a.length - p < m → p ≤ a.length → p ≤ b.length → a.take p = b.take p →
    ∃ p' : Nat, p' ≤ a.length ∧ p' ≤ b.length ∧ a.take p' = b.take p' ∧ J22_0 n m (a, b, (p : Int), s) = some (.inl (a, b, (p' : Int), s))
  | 0, p, h, _, _, _ => by omega
  | m + 1, p, h, hp, hq, he => by
    rw [j22_0]
    unfold F22_0
    simp only
    by_cases c1 : p < a.length
    · by_cases c2 : p < b.length
      · have h1 : (0 ≤ (p : Int) ∧ (p : Int) < (a.length : Int)) := ⟨by omega, by omega⟩
        have h2 : (0 ≤ (p : Int) ∧ (p : Int) < (b.length : Int)) := ⟨by omega, by omega⟩
        simp only [decide_eq_true (show (p : Int) < (a.length : Int) by omega), decide_eq_true (show (p : Int) < (b.length : Int) by omega), beq_self_eq_true, cond_true, if_pos h1, if_pos h2, getD_k a c1, getD_k b c2, succ_k c1 (show a.length ≤ 1099511627776 by omega)]
        by_cases c : a[p] = b[p]
        · simp only [decide_eq_true c, cond_true]
          refine of0 n a b ha s m (p + 1) (by omega) c1 c2 ?_
          rw [List.take_succ_eq_append_getElem c1, List.take_succ_eq_append_getElem c2, he, c]
        · simp only [decide_eq_false c, cond_false]
          exact ⟨p, hp, hq, he, rfl⟩
      · simp only [decide_eq_true (show (p : Int) < (a.length : Int) by omega), decide_eq_false (show ¬ (p : Int) < (b.length : Int) by omega), beq_self_eq_true, cond_true]
        exact ⟨p, hp, hq, he, rfl⟩
    · simp only [decide_eq_false (show ¬ (p : Int) < (a.length : Int) by omega)]
      exact ⟨p, hp, hq, he, rfl⟩
theorem of1 (n : Nat) (a b : List Int) (ha : a.length ≤ 1000) (hb : b.length ≤ 1000) (p : Int) : ∀ (m s : Nat), a.length - s < m → s ≤ a.length → s ≤ b.length → a.drop (a.length - s) = b.drop (b.length - s) →
    ∃ s' : Nat, s' ≤ a.length ∧ s' ≤ b.length ∧ a.drop (a.length - s') = b.drop (b.length - s') ∧ J22_1 n m (a, b, p, (s : Int)) = some (.inl (a, b, p, (s' : Int)))
  | 0, s, h, _, _, _ => by omega
  | m + 1, s, h, hp, hq, he => by
    rw [j22_1]
    unfold F22_1
    simp only
    by_cases c1 : s < a.length
    · by_cases c2 : s < b.length
      · have i1 : a.length - (s + 1) < a.length := by omega
        have i2 : b.length - (s + 1) < b.length := by omega
        have w1 : IntKind.wrap .i64 (IntKind.wrap .i64 ((a.length : Int) - 1) - (s : Int)) = ((a.length - (s + 1) : Nat) : Int) := by rw [w64 (show -9223372036854775808 ≤ (a.length : Int) - 1 by omega) (by omega), w64 (by omega) (by omega)]; omega
        have w2 : IntKind.wrap .i64 (IntKind.wrap .i64 ((b.length : Int) - 1) - (s : Int)) = ((b.length - (s + 1) : Nat) : Int) := by rw [w64 (show -9223372036854775808 ≤ (b.length : Int) - 1 by omega) (by omega), w64 (by omega) (by omega)]; omega
        have h1 : (0 ≤ ((a.length - (s + 1) : Nat) : Int) ∧ ((a.length - (s + 1) : Nat) : Int) < (a.length : Int)) := ⟨by omega, by omega⟩
        have h2 : (0 ≤ ((b.length - (s + 1) : Nat) : Int) ∧ ((b.length - (s + 1) : Nat) : Int) < (b.length : Int)) := ⟨by omega, by omega⟩
        simp only [decide_eq_true (show (s : Int) < (a.length : Int) by omega), decide_eq_true (show (s : Int) < (b.length : Int) by omega), beq_self_eq_true, cond_true, w1, w2, if_pos h1, if_pos h2, getD_k a i1, getD_k b i2, succ_k c1 (show a.length ≤ 1099511627776 by omega)]
        by_cases c : a[a.length - (s + 1)] = b[b.length - (s + 1)]
        · simp only [decide_eq_true c, cond_true]
          refine of1 n a b ha hb p m (s + 1) (by omega) c1 c2 ?_
          rw [List.drop_eq_getElem_cons i1, List.drop_eq_getElem_cons i2, c, show a.length - (s + 1) + 1 = a.length - s by omega, show b.length - (s + 1) + 1 = b.length - s by omega, he]
        · simp only [decide_eq_false c, cond_false]
          exact ⟨s, hp, hq, he, rfl⟩
      · simp only [decide_eq_true (show (s : Int) < (a.length : Int) by omega), decide_eq_false (show ¬ (s : Int) < (b.length : Int) by omega), beq_self_eq_true, cond_true]
        exact ⟨s, hp, hq, he, rfl⟩
    · simp only [decide_eq_false (show ¬ (s : Int) < (a.length : Int) by omega)]
      exact ⟨s, hp, hq, he, rfl⟩
theorem kcut_from {α : Type} (l : List α) (n : Nat) : cut l (n : Int) (l.length : Int) = l.drop n := by
  show (l.take l.length).drop n = _
  rw [List.take_length]
theorem kcut_mid {α : Type} (l : List α) (i j : Nat) : cut l (i : Int) (j : Int) = (l.drop i).take (j - i) := by
  show (l.take j).drop i = _
  rw [List.drop_take]
theorem Of_is (n : Nat) (a b : List Int) (ha : a.length ≤ 1000) (hb : b.length ≤ 1000) (hn : 1000 < n) :
    ∃ p s : Nat, R22 (n + 1) a b = some ((p : Int), (s : Int)) ∧ p + s ≤ a.length ∧ p + s ≤ b.length ∧ a.take p = b.take p ∧ a.drop (a.length - s) = b.drop (b.length - s) := by
  rw [u22]
  unfold r22
  obtain ⟨p, h1, h2, h3, e⟩ := of0 n a b ha 0 n 0 (by omega) (Nat.zero_le _) (Nat.zero_le _) (by simp)
  have la : (a.drop p).length = a.length - p := List.length_drop ..
  have lb : (b.drop p).length = b.length - p := List.length_drop ..
  obtain ⟨s, k1, k2, k3, e2⟩ := of1 n (a.drop p) (b.drop p) (by omega) (by omega) (p : Int) n 0 (by omega) (Nat.zero_le _) (Nat.zero_le _) (by rw [List.drop_of_length_le (by omega), List.drop_of_length_le (by omega)])
  have e : J22_0 n n (a, b, 0, 0) = _ := e
  have e2 : J22_1 n n (a.drop p, b.drop p, (p : Int), 0) = _ := e2
  refine ⟨p, s, ?_, by omega, by omega, h3, ?_⟩
  · simp only [e, Option.bind_some, onSum]
    rw [if_pos (by omega), if_pos (by omega), kcut_from, kcut_from, e2]
    rfl
  · rw [List.drop_drop, List.drop_drop, la, lb] at k3
    rw [show p + (a.length - p - s) = a.length - s by omega, show p + (b.length - p - s) = b.length - s by omega] at k3
    exact k3
theorem cloneI_is (n : Nat) (l : List Int) (h : l.length ≤ 1000) : R56 (n + 1) l = some l := by
  show PortX.cloneI l = _
  unfold PortX.cloneI
  rw [if_pos (by omega)]
theorem three (a : List Int) (p s : Nat) (h : p + s ≤ a.length) : a = a.take p ++ ((a.drop p).take (a.length - s - p) ++ a.drop (a.length - s)) := by
  have e : a.drop (a.length - s) = (a.drop p).drop (a.length - s - p) := by rw [List.drop_drop]; congr 1; omega
  rw [e, List.take_append_drop, List.take_append_drop]
/-- What stands between is as far from each other as the whole. -/
theorem Mid_is (n : Nat) (a b : List Int) (ha : a.length ≤ 1000) (hb : b.length ≤ 1000) (hn : 1000 < n) :
    ∃ u v : List Int, R23 (n + 2) a b = some (u, v) ∧ u.length ≤ a.length ∧ v.length ≤ b.length ∧ (u.length : Int) + (v.length : Int) - 2 * (lcs u v : Int) = (a.length : Int) + (b.length : Int) - 2 * (lcs a b : Int) := by
  obtain ⟨p, s, e, h1, h2, h3, h4⟩ := Of_is n a b ha hb hn
  have lu : ((a.drop p).take (a.length - s - p)).length = a.length - s - p := by rw [List.length_take, List.length_drop]; omega
  have lv : ((b.drop p).take (b.length - s - p)).length = b.length - s - p := by rw [List.length_take, List.length_drop]; omega
  refine ⟨(a.drop p).take (a.length - s - p), (b.drop p).take (b.length - s - p), ?_, by omega, by omega, ?_⟩
  · rw [u23]
    unfold r23
    simp only [e, Option.bind_some]
    have w1 : IntKind.wrap .i64 ((a.length : Int) - (s : Int)) = ((a.length - s : Nat) : Int) := by rw [w64 (by omega) (by omega)]; omega
    have w2 : IntKind.wrap .i64 ((b.length : Int) - (s : Int)) = ((b.length - s : Nat) : Int) := by rw [w64 (by omega) (by omega)]; omega
    have c1 : 0 ≤ (p : Int) ∧ (p : Int) ≤ ((a.length - s : Nat) : Int) ∧ ((a.length - s : Nat) : Int) ≤ (a.length : Int) := by omega
    have c2 : 0 ≤ (p : Int) ∧ (p : Int) ≤ ((b.length - s : Nat) : Int) ∧ ((b.length - s : Nat) : Int) ≤ (b.length : Int) := by omega
    rw [w1, w2, if_pos c1, kcut_mid, cloneI_is n _ (by omega), Option.bind_some, if_pos c2, kcut_mid, cloneI_is n _ (by omega), Option.bind_some]
  · have e1 := three a p s h1
    have e2 := three b p s h2
    rw [← h3, ← h4] at e2
    have el : lcs a b = p + (s + lcs ((a.drop p).take (a.length - s - p)) ((b.drop p).take (b.length - s - p))) := by
      have lp : (a.take p).length = p := by rw [List.length_take]; omega
      have ls : (a.drop (a.length - s)).length = s := by rw [List.length_drop]; omega
      have := congr (congrArg lcs e1) e2
      rw [lcs_pre, lcs_suf, lp, ls] at this
      exact this
    omega
end Go.Proofs.YtgelkklendpeoaaGreat.EPortNear
