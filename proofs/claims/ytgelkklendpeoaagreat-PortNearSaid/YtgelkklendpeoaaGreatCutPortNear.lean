import Derived.Test.YtgelkklendpeoaaGreatResPortNear
import Derived.Test.YtgelkklendpeoaaGreatResKit
import Derived.Test.YtgelkklendpeoaaGreatBytesX
namespace Go.Proofs.YtgelkklendpeoaaGreat.EPortNear
open Go Go.Proofs.YtgelkklendpeoaaGreat.AE Go.Proofs.YtgelkklendpeoaaGreat
set_option linter.unusedVariables false
set_option linter.unusedSimpArgs false
theorem getD_l {α : Type} (l : List α) {i : Nat} (h : i < l.length) (d : α) : l.getD ((i : Nat) : Int).toNat d = l[i] := by
  simp [List.getD, List.getElem?_eq_getElem h]
theorem succ_i {n i : Nat} (h : i < n) (hn : n ≤ 1099511627776) : IntKind.wrap .i64 ((i : Int) + 1) = ((i + 1 : Nat) : Int) := by rw [w64 (by omega) (by omega)]; omega
theorem idxB_neg : ∀ (l : List Int) (c : Int), (BytesX.idxB l c < 0 ↔ c ∉ l) ∧ -1 ≤ BytesX.idxB l c
  | [], c => by simp [BytesX.idxB]
  | x :: l, c => by
    have ih := idxB_neg l c
    unfold BytesX.idxB
    by_cases h : x = c
    · subst h; simp
    · have h' : (x == c) = false := by simpa using h
      simp only [h', Bool.false_eq_true, if_false, List.mem_cons, not_or]
      by_cases h2 : BytesX.idxB l c = -1
      · have : (BytesX.idxB l c == -1) = true := by simpa using h2
        rw [if_pos this]
        have := ih.1.1 (by omega)
        exact ⟨⟨fun _ => ⟨fun e => h e.symm, this⟩, fun _ => by omega⟩, by omega⟩
      · have : ¬ (BytesX.idxB l c == -1) = true := by simpa using h2
        rw [if_neg this]
        exact ⟨⟨fun e => by omega, fun e => by have := ih.1.2 e.2; omega⟩, by omega⟩
/-! Texts cut and joined, scripts done and turned round: what both sides compute. -/
theorem gcut_to {α : Type} (l : List α) (n : Nat) : cut l 0 (n : Int) = l.take n := rfl
theorem gcut_from {α : Type} (l : List α) (n : Nat) : cut l (n : Int) (l.length : Int) = l.drop n := by
  show (l.take l.length).drop n = _
  rw [List.take_length]
theorem gcut_mid {α : Type} (l : List α) (i j : Nat) : cut l (i : Int) (j : Int) = (l.drop i).take (j - i) := by
  show (l.take j).drop i = _
  rw [List.drop_take]
def linesS (mode : Int) (cur : List Int) : List Int → List (List Int)
  | [] => if cur = [] then [] else [cur]
  | x :: l => if mode = 0 ∨ x = 10 then (cur ++ [x]) :: linesS mode [] l else linesS mode (cur ++ [x]) l
def cutT (mode : Int) (b : List Int) : List (List Int) := linesS mode [] b
theorem idx_lt : ∀ (l : List Int) (c : Int), BytesX.idxB l c < (l.length : Int)
  | [], c => by simp [BytesX.idxB]
  | x :: l, c => by
    have := idx_lt l c
    simp only [BytesX.idxB, List.length_cons]
    split
    · omega
    · split
      · omega
      · omega
theorem lines_idx : ∀ (l cur : List Int), (BytesX.idxB l 10 = -1 → cur ++ l ≠ [] → linesS 1 cur l = [cur ++ l]) ∧
    (∀ n : Nat, BytesX.idxB l 10 = (n : Int) → linesS 1 cur l = (cur ++ l.take (n + 1)) :: linesS 1 [] (l.drop (n + 1)))
  | [], cur => ⟨fun _ h => by rw [List.append_nil] at h ⊢; unfold linesS; rw [if_neg h], fun n h => by simp only [BytesX.idxB] at h; omega⟩
  | x :: l, cur => by
    obtain ⟨h1, h2⟩ := lines_idx l (cur ++ [x])
    have hg := (idxB_neg l 10).2
    by_cases hx : x = 10
    · subst hx
      have e : BytesX.idxB (10 :: l) 10 = 0 := by simp [BytesX.idxB]
      rw [e]
      refine ⟨fun h => by omega, fun n hn => ?_⟩
      obtain rfl : n = 0 := by omega
      simp [linesS]
    · have e : BytesX.idxB (x :: l) 10 = if BytesX.idxB l 10 == -1 then -1 else BytesX.idxB l 10 + 1 := by simp [BytesX.idxB, hx]
      have el : linesS 1 cur (x :: l) = linesS 1 (cur ++ [x]) l := by
        show (if (1 : Int) = 0 ∨ x = 10 then _ else _) = _
        rw [if_neg (by omega)]
      rw [e, el]
      by_cases hz : BytesX.idxB l 10 = -1
      · rw [if_pos (by rw [hz]; rfl)]
        refine ⟨fun _ _ => ?_, fun n h => by omega⟩
        rw [h1 hz (by simp), List.append_assoc]
        rfl
      · rw [if_neg (by simpa using hz)]
        refine ⟨fun h => by omega, fun n hn => ?_⟩
        obtain ⟨p, rfl⟩ : ∃ p, n = p + 1 := ⟨n - 1, by omega⟩
        rw [h2 p (by omega), List.append_assoc]
        rfl
theorem clone_is (k : Nat) (l : List Int) (h : l.length ≤ 1099511627776) : R52 (k + 1) l = some l := by
  show (if l.length ≤ 70368744177664 then some l else none) = _
  rw [if_pos (by omega)]
theorem isMode_is (k : Nat) (mode : Int) : R50 (k + 1) mode = some (decide (mode = 0 ∨ mode = 1)) := by
  rw [u50]
  unfold r50
  by_cases m0 : mode = 0
  · subst m0; rfl
  · simp only [decide_eq_false m0, m0, false_or]
    rfl
theorem ibyte_is (k : Nat) (l : List Int) (hb : ∀ x ∈ l, 0 ≤ x ∧ x ≤ 255) : R51 (k + 2) l 10 = some (BytesX.idxB l 10) := by
  rw [u51]
  unfold r51
  have e : R91 (k + 1) l 10 = some (BytesX.idxB l 10) := by
    show BytesX.indexB (l, 10) = _
    unfold BytesX.indexB
    rw [if_pos]
    simp only [Bool.and_eq_true, List.all_eq_true, decide_eq_true_eq]
    exact ⟨fun x hx => by have := hb x hx; omega, by omega, by omega⟩
  rw [e, Option.bind_some]
theorem tcut_loop (k : Nat) (mode : Int) (hm : mode = 0 ∨ mode = 1) : ∀ (m : Nat) (l : List Int) (acc : List (List Int)), l.length < m → (∀ x ∈ l, 0 ≤ x ∧ x ≤ 255) → acc.length + l.length ≤ 1099511627776 →
    J20_0 (k + 2) m (mode, l, acc) = some (.inl (mode, [], acc ++ linesS mode [] l))
  | 0, l, acc, h, _, _ => by omega
  | m + 1, l, acc, h, hb, ha => by
    rw [j20_0]
    unfold F20_0
    simp only
    by_cases hl : l = []
    · subst hl
      rw [decide_eq_false (show ¬ ((([] : List Int).length : Nat) : Int) > 0 by simp), cond_false]
      simp [linesS]
    · have hp : 0 < l.length := List.length_pos_iff.2 hl
      have ih := fun (n : Nat) (h1 : 0 < n) (h2 : n ≤ l.length) => tcut_loop k mode hm m (l.drop n) (acc ++ [l.take n]) (by rw [List.length_drop]; omega) (fun x hx => hb x (List.mem_of_mem_drop hx)) (by rw [List.length_append, List.length_drop, List.length_singleton]; omega)
      rw [decide_eq_true (show (l.length : Int) > 0 by omega), cond_true]
      have app : ∀ (t : List Int), ((acc.length + [t].length) * 24 ≤ 140737488355328 ∧ acc.length + [t].length ≤ 140737488355328) := fun t => by rw [List.length_singleton]; omega
      have take_len : ∀ n : Nat, (l.take n).length ≤ 1099511627776 := fun n => by rw [List.length_take]; omega
      rcases hm with rfl | rfl
      · rw [decide_eq_false (show ¬ (0 : Int) = 1 by omega), cond_false, if_pos (show (0 : Int) ≤ 0 ∧ (0 : Int) ≤ 1 ∧ (1 : Int) ≤ (l.length : Int) by omega)]
        have c1 : cut l 0 1 = l.take 1 := gcut_to l 1
        have c2 : cut l 1 (l.length : Int) = l.drop 1 := gcut_from l 1
        rw [c1, clone_is (k + 1) _ (take_len 1), Option.bind_some, if_pos (app _), if_pos (by omega), c2]
        refine (ih 1 (by omega) hp).trans ?_
        cases l with
        | nil => exact absurd rfl hl
        | cons x l => simp [linesS]
      · rw [decide_eq_true (show (1 : Int) = 1 by rfl), cond_true, ibyte_is k l hb, Option.bind_some]
        have hlt := idx_lt l 10
        have hge := (idxB_neg l 10).2
        rw [w64 (show -9223372036854775808 ≤ BytesX.idxB l 10 + 1 by omega) (by omega)]
        by_cases hz : BytesX.idxB l 10 = -1
        · rw [hz]
          simp only [show ((-1 : Int) + 1 = 0) from rfl, decide_true, cond_true]
          rw [if_pos (show (0 : Int) ≤ 0 ∧ (0 : Int) ≤ (l.length : Int) ∧ (l.length : Int) ≤ (l.length : Int) by omega)]
          rw [gcut_to l l.length, clone_is (k + 1) _ (take_len _), Option.bind_some, if_pos (app _), if_pos (by omega), gcut_from l l.length]
          refine (ih l.length hp (Nat.le_refl _)).trans ?_
          rw [(lines_idx l []).1 hz (by simpa using hl)]
          simp [linesS]
        · obtain ⟨n, hn⟩ : ∃ n : Nat, BytesX.idxB l 10 = (n : Int) := ⟨(BytesX.idxB l 10).toNat, by omega⟩
          rw [hn, decide_eq_false (show ¬ ((n : Int) + 1 = 0) by omega), cond_false]
          have e1 : (n : Int) + 1 = ((n + 1 : Nat) : Int) := by omega
          rw [e1, if_pos (by omega), gcut_to l (n + 1), clone_is (k + 1) _ (take_len _), Option.bind_some, if_pos (app _), if_pos (by omega), gcut_from l (n + 1)]
          refine (ih (n + 1) (by omega) (by omega)).trans ?_
          rw [(lines_idx l []).2 n hn]
          simp
theorem Cut_is (k : Nat) (mode : Int) (b : List Int) (hb : ∀ x ∈ b, 0 ≤ x ∧ x ≤ 255) (hlen : b.length ≤ 1099511627776) (hk : b.length < k) :
    R20 (k + 3) mode b = some (if mode = 0 ∨ mode = 1 then (cutT mode b, 0) else ([], 1)) := by
  rw [u20]
  unfold r20
  rw [isMode_is (k + 1), Option.bind_some]
  by_cases hm : mode = 0 ∨ mode = 1
  · have e : J20_0 (k + 2) (k + 2) (mode, b, []) = _ := tcut_loop k mode hm (k + 2) b [] (by omega) hb (by simpa using hlen)
    simp only [decide_eq_true hm, Bool.not_true, cond_false, e, Option.bind_some, onSum, if_pos hm, List.nil_append]
    rfl
  · simp only [decide_eq_false hm, Bool.not_false, cond_true, if_neg hm]
/-! The reference's Cut. -/
theorem rcut_loop (mode : Int) (hm : mode = 0 ∨ mode = 1) (b : List Int) (hlen : b.length ≤ 1099511627776) : ∀ (m f i : Nat) (acc : List (List Int)), b.length - i < m → f ≤ i → i ≤ b.length → acc.length ≤ i →
    ∃ (f' : Nat) (acc' : List (List Int)), f' ≤ b.length ∧ acc'.length ≤ b.length ∧ iter F61_0 m (mode, b, (f : Int), (i : Int), acc) = some (.inl (mode, b, (f' : Int), (b.length : Int), acc')) ∧
      acc' ++ (if f' < b.length then [b.drop f'] else []) = acc ++ linesS mode ((b.drop f).take (i - f)) (b.drop i)
  | 0, f, i, acc, h, _, _, _ => by omega
  | m + 1, f, i, acc, h, hf, hi, ha => by
    show ∃ f' acc', _ ∧ _ ∧ F61_0 (iter F61_0 m) _ = _ ∧ _
    unfold F61_0
    simp only
    by_cases hl : i < b.length
    · have h2 : (0 ≤ (i : Int) ∧ (i : Int) < (b.length : Int)) := ⟨by omega, by omega⟩
      have hd : b.drop i = b[i] :: b.drop (i + 1) := List.drop_eq_getElem_cons hl
      have w1 : IntKind.wrap .i64 ((i : Int) + 1) = ((i + 1 : Nat) : Int) := succ_i hl hlen
      have cu : (b.drop f).take (i - f) ++ [b[i]] = (b.drop f).take (i + 1 - f) := by
        have e1 : i + 1 - f = (i - f) + 1 := by omega
        have hlt : i - f < (b.drop f).length := by rw [List.length_drop]; omega
        rw [e1, List.take_succ_eq_append_getElem hlt]
        congr 2
        rw [List.getElem_drop]
        congr 1
        omega
      have app : ∀ (t : List Int), ((acc.length + [t].length) * 24 ≤ 140737488355328 ∧ acc.length + [t].length ≤ 140737488355328) := fun t => by rw [List.length_singleton]; omega
      have ih1 := rcut_loop mode hm b hlen m (i + 1) (i + 1) (acc ++ [(b.drop f).take (i + 1 - f)]) (by omega) (Nat.le_refl _) hl (by rw [List.length_append, List.length_singleton]; omega)
      have ih2 := rcut_loop mode hm b hlen m f (i + 1) acc (by omega) (by omega) hl (by omega)
      have cc : cut b (f : Int) ((i + 1 : Nat) : Int) = (b.drop f).take (i + 1 - f) := gcut_mid b f (i + 1)
      have hc : (0 : Int) ≤ (f : Int) ∧ (f : Int) ≤ ((i + 1 : Nat) : Int) ∧ ((i + 1 : Nat) : Int) ≤ (b.length : Int) := by omega
      simp only [decide_eq_true (show (i : Int) < (b.length : Int) by omega), cond_true, if_pos h2, getD_l b hl, w1, cc, if_pos hc, if_pos (app _)]
      rw [hd]
      unfold linesS
      rw [cu]
      rcases hm with rfl | rfl
      · simp only [decide_true, Bool.true_eq_false, beq_self_eq_true, cond_true, cond_false, true_or, if_true, show ((true == false) = false) from rfl]
        obtain ⟨f', acc', q1, q2, q3, q4⟩ := ih1
        refine ⟨f', acc', q1, q2, q3, q4.trans ?_⟩
        simp
      · simp only [show decide ((1 : Int) = 0) = false from rfl, beq_self_eq_true, cond_true, show ¬ ((1 : Int) = 0) by omega, false_or]
        by_cases hx : b[i] = 10
        · simp only [decide_eq_true hx, cond_true, if_pos hx]
          obtain ⟨f', acc', q1, q2, q3, q4⟩ := ih1
          refine ⟨f', acc', q1, q2, q3, q4.trans ?_⟩
          simp
        · simp only [decide_eq_false hx, cond_false, if_neg hx]
          exact ih2
    · obtain rfl : i = b.length := by omega
      refine ⟨f, acc, hf, ha, ?_, ?_⟩
      · simp only [decide_eq_false (show ¬ ((b.length : Nat) : Int) < (b.length : Int) by omega), cond_false]
      · rw [List.drop_length]
        unfold linesS
        have e : (b.drop f).take (b.length - f) = b.drop f := List.take_of_length_le (by rw [List.length_drop]; omega)
        rw [e]
        by_cases hq : f < b.length
        · rw [if_pos hq, if_neg]
          intro h0
          have := congrArg List.length h0
          rw [List.length_drop] at this
          simp at this
          omega
        · rw [if_neg hq, if_pos]
          exact List.drop_of_length_le (by omega)
theorem RefCut_is (k : Nat) (mode : Int) (b : List Int) (hlen : b.length ≤ 1099511627776) (hk : b.length < k) :
    R61 (k + 1) mode b = some (if mode = 0 ∨ mode = 1 then (cutT mode b, 0) else ([], 1)) := by
  rw [u61]
  unfold r61
  have main : (mode = 0 ∨ mode = 1) → ∃ (f' : Nat) (acc' : List (List Int)), f' ≤ b.length ∧ acc'.length ≤ b.length ∧ J61_0 k k (mode, b, 0, 0, []) = some (.inl (mode, b, (f' : Int), (b.length : Int), acc')) ∧
      acc' ++ (if f' < b.length then [b.drop f'] else []) = cutT mode b := fun hm => by
    obtain ⟨f', acc', q1, q2, q3, q4⟩ := rcut_loop mode hm b hlen k 0 0 [] (by omega) (Nat.le_refl _) (Nat.zero_le _) (Nat.zero_le _)
    exact ⟨f', acc', q1, q2, q3, by rw [q4]; simp [cutT]⟩
  have fin : ∀ (f' : Nat) (acc' : List (List Int)), f' ≤ b.length → acc'.length ≤ b.length → acc' ++ (if f' < b.length then [b.drop f'] else []) = cutT mode b →
      (bif decide ((f' : Int) < (b.length : Int)) then
        if 0 ≤ (f' : Int) ∧ (f' : Int) ≤ (b.length : Int) ∧ (b.length : Int) ≤ (b.length : Int) then
          if (acc'.length + [cut b (f' : Int) (b.length : Int)].length) * 24 ≤ 140737488355328 ∧ acc'.length + [cut b (f' : Int) (b.length : Int)].length ≤ 140737488355328 then
            some (acc' ++ [cut b (f' : Int) (b.length : Int)], (0 : Int)) else none
        else none
      else some (acc', (0 : Int))) = some (cutT mode b, 0) := fun f' acc' q1 q2 q4 => by
    rw [← q4]
    by_cases hq : f' < b.length
    · rw [decide_eq_true (show (f' : Int) < (b.length : Int) by omega), cond_true, if_pos (by omega), if_pos (by rw [List.length_singleton]; omega), if_pos hq, gcut_from]
    · rw [decide_eq_false (show ¬ (f' : Int) < (b.length : Int) by omega), cond_false, if_neg hq, List.append_nil]
  by_cases m0 : mode = 0
  · subst m0
    obtain ⟨f', acc', q1, q2, q3, q4⟩ := main (.inl rfl)
    have h := fin f' acc' q1 q2 q4
    simp only [decide_true, Bool.not_true, show ((false == true) = false) from rfl, cond_false, q3, Option.bind_some, onSum, true_or, if_true]
    exact h
  · by_cases m1 : mode = 1
    · subst m1
      obtain ⟨f', acc', q1, q2, q3, q4⟩ := main (.inr rfl)
      have h := fin f' acc' q1 q2 q4
      simp only [show decide ((1 : Int) = 0) = false from rfl, Bool.not_false, beq_self_eq_true, cond_true, decide_true, Bool.not_true, cond_false, q3, Option.bind_some, onSum, or_true, if_true]
      exact h
    · rw [if_neg (show ¬ (mode = 0 ∨ mode = 1) by omega)]
      simp only [decide_eq_false m0, decide_eq_false m1]
      rfl
end Go.Proofs.YtgelkklendpeoaaGreat.EPortNear
