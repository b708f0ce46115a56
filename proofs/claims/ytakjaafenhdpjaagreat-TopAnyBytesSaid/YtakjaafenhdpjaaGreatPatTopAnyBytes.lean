import Derived.Test.YtakjaafenhdpjaaGreatFmtTopAnyBytes
import Derived.Test.YtakjaafenhdpjaaGreatGooTopAnyBytes
namespace Go.Proofs.YtakjaafenhdpjaaGreat.ETopAnyBytes
open Go Go.Proofs.YtakjaafenhdpjaaGreat.AE Go.Proofs.YtakjaafenhdpjaaGreat
set_option linter.unusedVariables false
set_option linter.unusedSimpArgs false
/-! Texts cut and joined, scripts done and turned round: what both sides compute. -/
theorem gcut_to {α : Type} (l : List α) (n : Nat) : cut l 0 (n : Int) = l.take n := rfl
theorem gcut_from {α : Type} (l : List α) (n : Nat) : cut l (n : Int) (l.length : Int) = l.drop n := by
  show (l.take l.length).drop n = _
  rw [List.take_length]
theorem gcut_mid {α : Type} (l : List α) (i j : Nat) : cut l (i : Int) (j : Int) = (l.drop i).take (j - i) := by
  show (l.take j).drop i = _
  rw [List.drop_take]
def linesS (mode : Int) (cur : List Int) : List Int → List (List Int)
  | [] => if cur = [] then [] else [cur]
  | x :: l => if mode = 0 ∨ x = 10 then (cur ++ [x]) :: linesS mode [] l else linesS mode (cur ++ [x]) l
def cutT (mode : Int) (b : List Int) : List (List Int) := linesS mode [] b
theorem idx_lt : ∀ (l : List Int) (c : Int), BytesX.idxB l c < (l.length : Int)
  | [], c => by simp [BytesX.idxB]
  | x :: l, c => by
    have := idx_lt l c
    simp only [BytesX.idxB, List.length_cons]
    split
    · omega
    · split
      · omega
      · omega
theorem lines_idx : ∀ (l cur : List Int), (BytesX.idxB l 10 = -1 → cur ++ l ≠ [] → linesS 1 cur l = [cur ++ l]) ∧
    (∀ n : Nat, BytesX.idxB l 10 = (n : Int) → linesS 1 cur l = (cur ++ l.take (n + 1)) :: linesS 1 [] (l.drop (n + 1)))
  | [], cur => ⟨fun _ h => by rw [List.append_nil] at h ⊢; unfold linesS; rw [if_neg h], fun n h => by simp only [BytesX.idxB] at h; omega⟩
  | x :: l, cur => by
    obtain ⟨h1, h2⟩ := lines_idx l (cur ++ [x])
    have hg := (idxB_neg l 10).2
    by_cases hx : x = 10
    · subst hx
      have e : BytesX.idxB (10 :: l) 10 = 0 := by simp [BytesX.idxB]
      rw [e]
      refine ⟨fun h => by omega, fun n hn => ?_⟩
      obtain rfl : n = 0 := by omega
      simp [linesS]
    · have e : BytesX.idxB (x :: l) 10 = if BytesX.idxB l 10 == -1 then -1 else BytesX.idxB l 10 + 1 := by simp [BytesX.idxB, hx]
      have el : linesS 1 cur (x :: l) = linesS 1 (cur ++ [x]) l := by
        show (if (1 : Int) = 0 ∨ x = 10 then _ else _) = _
        rw [if_neg (by omega)]
      rw [e, el]
      by_cases hz : BytesX.idxB l 10 = -1
      · rw [if_pos (by rw [hz]; rfl)]
        refine ⟨fun _ _ => ?_, fun n h => by omega⟩
        rw [h1 hz (by simp), List.append_assoc]
        rfl
      · rw [if_neg (by simpa using hz)]
        refine ⟨fun h => by omega, fun n hn => ?_⟩
        obtain ⟨p, rfl⟩ : ∃ p, n = p + 1 := ⟨n - 1, by omega⟩
        rw [h2 p (by omega), List.append_assoc]
        rfl
theorem clone_is (k : Nat) (l : List Int) (h : l.length ≤ 1099511627776) : R68 (k + 1) l = some l := by
  show (if l.length ≤ 70368744177664 then some l else none) = _
  rw [if_pos (by omega)]
theorem isMode_is (k : Nat) (mode : Int) : R66 (k + 1) mode = some (decide (mode = 0 ∨ mode = 1)) := by
  rw [u66]
  unfold r66
  by_cases m0 : mode = 0
  · subst m0; rfl
  · simp only [decide_eq_false m0, m0, false_or]
    rfl
theorem ibyte_is (k : Nat) (l : List Int) (hb : ∀ x ∈ l, 0 ≤ x ∧ x ≤ 255) : R67 (k + 2) l 10 = some (BytesX.idxB l 10) := by
  rw [u67]
  unfold r67
  have e : R107 (k + 1) l 10 = some (BytesX.idxB l 10) := by
    show BytesX.indexB (l, 10) = _
    unfold BytesX.indexB
    rw [if_pos]
    simp only [Bool.and_eq_true, List.all_eq_true, decide_eq_true_eq]
    exact ⟨fun x hx => by have := hb x hx; omega, by omega, by omega⟩
  rw [e, Option.bind_some]
theorem tcut_loop (k : Nat) (mode : Int) (hm : mode = 0 ∨ mode = 1) : ∀ (m : Nat) (l : List Int) (acc : List (List Int)), l.length < m → (∀ x ∈ l, 0 ≤ x ∧ x ≤ 255) → acc.length + l.length ≤ 1099511627776 →
    J29_0 (k + 2) m (mode, l, acc) = some (.inl (mode, [], acc ++ linesS mode [] l))
  | 0, l, acc, h, _, _ => by omega
  | m + 1, l, acc, h, hb, ha => by
    rw [j29_0]
    unfold F29_0
    simp only
    by_cases hl : l = []
    · subst hl
      rw [decide_eq_false (show ¬ ((([] : List Int).length : Nat) : Int) > 0 by simp), cond_false]
      simp [linesS]
    · have hp : 0 < l.length := List.length_pos_iff.2 hl
      have ih := fun (n : Nat) (h1 : 0 < n) (h2 : n ≤ l.length) => tcut_loop k mode hm m (l.drop n) (acc ++ [l.take n]) (by rw [List.length_drop]; omega) (fun x hx => hb x (List.mem_of_mem_drop hx)) (by rw [List.length_append, List.length_drop, List.length_singleton]; omega)
      rw [decide_eq_true (show (l.length : Int) > 0 by omega), cond_true]
      have app : ∀ (t : List Int), ((acc.length + [t].length) * 24 ≤ 140737488355328 ∧ acc.length + [t].length ≤ 140737488355328) := fun t => by rw [List.length_singleton]; omega
      have take_len : ∀ n : Nat, (l.take n).length ≤ 1099511627776 := fun n => by rw [List.length_take]; omega
      rcases hm with rfl | rfl
      · rw [decide_eq_false (show ¬ (0 : Int) = 1 by omega), cond_false, if_pos (show (0 : Int) ≤ 0 ∧ (0 : Int) ≤ 1 ∧ (1 : Int) ≤ (l.length : Int) by omega)]
        have c1 : cut l 0 1 = l.take 1 := gcut_to l 1
        have c2 : cut l 1 (l.length : Int) = l.drop 1 := gcut_from l 1
        rw [c1, clone_is (k + 1) _ (take_len 1), Option.bind_some, if_pos (app _), if_pos (by omega), c2]
        refine (ih 1 (by omega) hp).trans ?_
        cases l with
        | nil => exact absurd rfl hl
        | cons x l => simp [linesS]
      · rw [decide_eq_true (show (1 : Int) = 1 by rfl), cond_true, ibyte_is k l hb, Option.bind_some]
        have hlt := idx_lt l 10
        have hge := (idxB_neg l 10).2
        rw [w64 (show -9223372036854775808 ≤ BytesX.idxB l 10 + 1 by omega) (by omega)]
        by_cases hz : BytesX.idxB l 10 = -1
        · rw [hz]
          simp only [show ((-1 : Int) + 1 = 0) from rfl, decide_true, cond_true]
          rw [if_pos (show (0 : Int) ≤ 0 ∧ (0 : Int) ≤ (l.length : Int) ∧ (l.length : Int) ≤ (l.length : Int) by omega)]
          rw [gcut_to l l.length, clone_is (k + 1) _ (take_len _), Option.bind_some, if_pos (app _), if_pos (by omega), gcut_from l l.length]
          refine (ih l.length hp (Nat.le_refl _)).trans ?_
          rw [(lines_idx l []).1 hz (by simpa using hl)]
          simp [linesS]
        · obtain ⟨n, hn⟩ : ∃ n : Nat, BytesX.idxB l 10 = (n : Int) := ⟨(BytesX.idxB l 10).toNat, by omega⟩
          rw [hn, decide_eq_false (show ¬ ((n : Int) + 1 = 0) by omega), cond_false]
          have e1 : (n : Int) + 1 = ((n + 1 : Nat) : Int) := by omega
          rw [e1, if_pos (by omega), gcut_to l (n + 1), clone_is (k + 1) _ (take_len _), Option.bind_some, if_pos (app _), if_pos (by omega), gcut_from l (n + 1)]
          refine (ih (n + 1) (by omega) (by omega)).trans ?_
          rw [(lines_idx l []).2 n hn]
          simp
theorem Cut_is (k : Nat) (mode : Int) (b : List Int) (hb : ∀ x ∈ b, 0 ≤ x ∧ x ≤ 255) (hlen : b.length ≤ 1099511627776) (hk : b.length < k) :
    R29 (k + 3) mode b = some (if mode = 0 ∨ mode = 1 then (cutT mode b, 0) else ([], 1)) := by
  rw [u29]
  unfold r29
  rw [isMode_is (k + 1), Option.bind_some]
  by_cases hm : mode = 0 ∨ mode = 1
  · have e : J29_0 (k + 2) (k + 2) (mode, b, []) = _ := tcut_loop k mode hm (k + 2) b [] (by omega) hb (by simpa using hlen)
    simp only [decide_eq_true hm, Bool.not_true, cond_false, e, Option.bind_some, onSum, if_pos hm, List.nil_append]
    rfl
  · simp only [decide_eq_false hm, Bool.not_false, cond_true, if_neg hm]
/-! The reference's Cut. -/
end Go.Proofs.YtakjaafenhdpjaaGreat.ETopAnyBytes
