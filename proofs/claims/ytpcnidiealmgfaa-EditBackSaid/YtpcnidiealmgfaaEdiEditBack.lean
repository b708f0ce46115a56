import Derived.Test.YtpcnidiealmgfaaGooEditBack
import Derived.Test.YtpcnidiealmgfaaNamEditBack
namespace Go.Proofs.Ytpcnidiealmgfaa.EEditBack
open Go Go.Proofs.Ytpcnidiealmgfaa.AE Go.Proofs.Ytpcnidiealmgfaa Go.Proofs.Ytpcnidiealmgfaa.NameX
set_option linter.unusedVariables false
set_option linter.unusedSimpArgs false
/-! What the functions of chapter 24 come to. -/
abbrev HkT : Ty := .slice (.pair (.int .i64) (.pair (.slice (.slice (.int .u8))) (.one (.slice (.slice (.int .u8))))))
abbrev Pr : Type := Int × Int
abbrev PrT : Ty := .slice (.pair (.int .i64) (.one (.int .i64)))
/-! few, small -/
theorem few24_loop (n : Nat) (l : List Tok) (hl : l.length ≤ 1099511627776) : ∀ (m i : Nat), l.length - i < m → i ≤ l.length →
    J13_0 n m (l, (i : Int)) = some (bif fewL 30 (l.drop i) then .inl (l, (l.length : Int)) else .inr false)
  | 0, i, h, _ => by omega
  | m + 1, i, hm, hi => by
    rw [j13_0]
    unfold F13_0
    simp only
    by_cases h : i < l.length
    · have hd : l.drop i = l[i] :: l.drop (i + 1) := List.drop_eq_getElem_cons h
      have h2 : (0 ≤ (i : Int) ∧ (i : Int) < (l.length : Int)) := ⟨by omega, by omega⟩
      have ih := few24_loop n l hl m (i + 1) (by omega) h
      rw [hd, fewL, List.all_cons, decide_eq_true (show (i : Int) < (l.length : Int) by omega), cond_true, if_pos h2, getD_n l h, succ_n h hl]
      by_cases z : l[i].length ≤ 30
      · rw [decide_eq_false (show ¬ ((l[i].length : Nat) : Int) > 30 by omega), decide_eq_true z, Bool.true_and]
        exact ih
      · rw [decide_eq_true (show ((l[i].length : Nat) : Int) > 30 by omega), decide_eq_false z]
        rfl
    · obtain rfl : i = l.length := by omega
      rw [decide_eq_false (show ¬ (l.length : Int) < (l.length : Int) by omega), List.drop_length]
      rfl
def fewB (l : List Tok) : Bool := decide (l.length ≤ 30) && fewL 30 l
theorem few24_is (n : Nat) (hn : 41 < n) (l : List Tok) : R13 (n + 1) l = some (fewB l) := by
  rw [u13]
  unfold r13 fewB
  dsimp only
  by_cases h : l.length ≤ 30
  · rw [decide_eq_false (show ¬ (l.length : Int) > 30 by omega), decide_eq_true h]
    have e : J13_0 n n (l, 0) = _ := few24_loop n l (by omega) n 0 (by omega) (by omega)
    rw [List.drop_zero] at e
    simp only [cond_false, e, Option.bind_some, Bool.true_and]
    cases fewL 30 l <;> rfl
  · rw [decide_eq_true (show (l.length : Int) > 30 by omega), decide_eq_false h]
    rfl
def smB (s : List Hk) : Bool := s.all fun h => fewB h.2.1 && fewB h.2.2
def delN : List Hk → Nat
  | [] => 0
  | h :: s => h.2.1.length + delN s
def insN : List Hk → Nat
  | [] => 0
  | h :: s => h.2.2.length + insN s
theorem count_loop (n : Nat) (s : List Hk) (hl : s.length ≤ 1099511627776) : ∀ (m i d e : Nat), s.length - i < m → i ≤ s.length → d + delN (s.drop i) ≤ 1099511627776 → e + insN (s.drop i) ≤ 1099511627776 →
    J17_0 n m ((d : Int), (e : Int), s, (s.length : Int), (i : Int)) = some (.inl (((d + delN (s.drop i) : Nat) : Int), ((e + insN (s.drop i) : Nat) : Int), s, (s.length : Int), (s.length : Int)))
  | 0, i, d, e, h, _, _, _ => by omega
  | m + 1, i, d, e, hm, hi, hd1, he1 => by
    rw [j17_0]
    unfold F17_0
    simp only
    by_cases h : i < s.length
    · have hd : s.drop i = s[i] :: s.drop (i + 1) := List.drop_eq_getElem_cons h
      have h2 : (0 ≤ (i : Int) ∧ (i : Int) < (s.length : Int)) := ⟨by omega, by omega⟩
      rw [hd] at hd1 he1 ⊢
      simp only [delN, insN] at hd1 he1 ⊢
      simp only [decide_eq_true (show (i : Int) < (s.length : Int) by omega), cond_true, if_pos h2, getD_n s h, succ_n h hl]
      have w1 : IntKind.wrap .i64 ((d : Int) + (s[i].2.1.length : Int)) = ((d + s[i].2.1.length : Nat) : Int) := by rw [w64 (by omega) (by omega)]; omega
      have w2 : IntKind.wrap .i64 ((e : Int) + (s[i].2.2.length : Int)) = ((e + s[i].2.2.length : Nat) : Int) := by rw [w64 (by omega) (by omega)]; omega
      rw [w1, w2, count_loop n s hl m (i + 1) _ _ (by omega) h (by omega) (by omega), Nat.add_assoc, Nat.add_assoc]
    · obtain rfl : i = s.length := by omega
      rw [decide_eq_false (show ¬ (s.length : Int) < (s.length : Int) by omega), List.drop_length]
      rfl
theorem count_is (n : Nat) (s : List Hk) (hn : s.length < n) (hl : s.length ≤ 1099511627776) (h1 : delN s ≤ 1099511627776) (h2 : insN s ≤ 1099511627776) : R17 (n + 1) s = some ((delN s : Int), (insN s : Int)) := by
  rw [u17]
  unfold r17
  have e : J17_0 n n (((0 : Nat) : Int), ((0 : Nat) : Int), s, (s.length : Int), ((0 : Nat) : Int)) = _ := count_loop n s hl n 0 0 0 (by omega) (by omega) (by simpa using h1) (by simpa using h2)
  simp only [List.drop_zero, Nat.zero_add] at e
  have e' : J17_0 n n (0, 0, s, (s.length : Int), 0) = _ := e
  simp only [e', Option.bind_some]
  rfl
/-- What the guard tells. -/
structure Sml (s : List Hk) : Prop where
  n : s.length ≤ 12
  l : Lim 30 s
theorem sml_of {s : List Hk} (h : (decide (s.length ≤ 12) && smB s) = true) : Sml s := by
  simp only [Bool.and_eq_true, decide_eq_true_eq, smB, List.all_eq_true, fewB] at h
  exact ⟨h.1, fun x hx => ⟨(h.2 x hx).1.1, (h.2 x hx).2.1⟩⟩
theorem del_le : ∀ (s : List Hk), Lim 30 s → delN s ≤ 30 * s.length ∧ insN s ≤ 30 * s.length
  | [], _ => ⟨Nat.le_refl _, Nat.le_refl _⟩
  | h :: s, hl => by
    have ih := del_le s (fun x hx => hl x (List.mem_cons_of_mem _ hx))
    have h1 := hl h (by simp)
    simp only [delN, insN, List.length_cons]
    omega
theorem ats24 {s : List Hk} (w : WF HkT s) : ∀ h ∈ s, -9223372036854775808 ≤ h.1 ∧ h.1 ≤ 9223372036854775807 := fun h hh => wf_i64 (w.2 h hh).1
end Go.Proofs.Ytpcnidiealmgfaa.EEditBack
