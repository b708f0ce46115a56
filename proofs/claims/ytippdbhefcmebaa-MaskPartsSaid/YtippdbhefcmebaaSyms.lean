import Derived.Test.YtippdbhefcmebaaMasks
namespace Go.Proofs.Ytippdbhefcmebaa.MaskX
open Go Go.Proofs.Ytippdbhefcmebaa.Masks
set_option linter.unusedVariables false
/-! The numbers of a list, each once, rising: as a program would put them in. -/
def insU (x : Int) : List Int → List Int
  | [] => [x]
  | y :: l => if x < y then x :: y :: l else if x = y then y :: l else y :: insU x l
def symsOf : List Int → List Int
  | [] => []
  | x :: l => insU x (symsOf l)
theorem mem_insU (x z : Int) : ∀ l, z ∈ insU x l ↔ z = x ∨ z ∈ l
  | [] => by simp [insU]
  | y :: l => by
    unfold insU
    split
    · simp
    · split
      · rename_i h; subst h; simp
      · rw [List.mem_cons, mem_insU x z l, List.mem_cons]
        constructor
        · rintro (h | h | h) <;> simp [h]
        · rintro (h | h | h) <;> simp [h]
theorem mem_symsOf (z : Int) : ∀ l, z ∈ symsOf l ↔ z ∈ l
  | [] => by simp [symsOf]
  | x :: l => by rw [symsOf, mem_insU, mem_symsOf z l, List.mem_cons]
theorem insU_rise (x : Int) : ∀ l, List.Pairwise (· < ·) l → List.Pairwise (· < ·) (insU x l)
  | [], _ => by simp [insU]
  | y :: l, h => by
    have h1 := List.pairwise_cons.1 h
    unfold insU
    split
    · rename_i hxy
      refine List.pairwise_cons.2 ⟨fun z hz => ?_, h⟩
      rcases List.mem_cons.1 hz with rfl | hz
      · exact hxy
      · exact Int.lt_trans hxy (h1.1 z hz)
    · split
      · exact h
      · refine List.pairwise_cons.2 ⟨fun z hz => ?_, insU_rise x l h1.2⟩
        rcases (mem_insU x z l).1 hz with rfl | hz
        · omega
        · exact h1.1 z hz
theorem symsOf_rise : ∀ l, List.Pairwise (· < ·) (symsOf l)
  | [] => by simp [symsOf]
  | x :: l => insU_rise x _ (symsOf_rise l)
/-- Two rising lists of the same members are one. -/
theorem rise_eq : ∀ (l m : List Int), List.Pairwise (· < ·) l → List.Pairwise (· < ·) m → (∀ z, z ∈ l ↔ z ∈ m) → l = m
  | [], [], _, _, _ => rfl
  | [], y :: m, _, _, h => absurd ((h y).2 (by simp)) (by simp)
  | x :: l, [], _, _, h => absurd ((h x).1 (by simp)) (by simp)
  | x :: l, y :: m, hl, hm, h => by
    have h1 := List.pairwise_cons.1 hl
    have h2 := List.pairwise_cons.1 hm
    have exy : x = y := by
      have hx := (h x).1 (by simp)
      have hy := (h y).2 (by simp)
      rcases List.mem_cons.1 hx with e | hx
      · exact e
      · rcases List.mem_cons.1 hy with e | hy
        · exact e.symm
        · have := h1.1 y hy; have := h2.1 x hx; omega
    subst exy
    rw [rise_eq l m h1.2 h2.2 fun z => ?_]
    constructor
    · intro hz
      rcases List.mem_cons.1 ((h z).1 (List.mem_cons_of_mem _ hz)) with e | h3
      · have := h1.1 z hz; omega
      · exact h3
    · intro hz
      rcases List.mem_cons.1 ((h z).2 (List.mem_cons_of_mem _ hz)) with e | h3
      · have := h2.1 z hz; omega
      · exact h3
theorem compact_rise (l : List Int) (h : List.Pairwise (· ≤ ·) l) : List.Pairwise (· < ·) (Lib.compact l) := by
  have at_ : ∀ j, j < l.length → l.toArray[j]! = l.getD j 0 := fun j hj => by
    simp only [List.getElem!_toArray]
    rw [List.getElem!_eq_getElem?_getD, List.getD_eq_getElem?_getD, List.getElem?_eq_getElem hj]
    rfl
  have mono : ∀ i j, i ≤ j → j < l.length → l.getD i 0 ≤ l.getD j 0 := fun i j hij hj => by
    rcases Nat.lt_or_ge i j with h1 | h1
    · have := List.pairwise_iff_getElem.1 h i j (by omega) hj h1
      rw [List.getD_eq_getElem?_getD, List.getElem?_eq_getElem (show i < l.length by omega), List.getD_eq_getElem?_getD, List.getElem?_eq_getElem hj]
      exact this
    · have : i = j := by omega
      subst this; exact Int.le_refl _
  have key : ∀ m, m ≤ l.length → List.Pairwise (· < ·) (Lib.compactUpTo l.toArray m) ∧ ∀ z ∈ Lib.compactUpTo l.toArray m, ∃ j, j < m ∧ z = l.getD j 0 := by
    intro m
    induction m with
    | zero => intro _; simp [Lib.compactUpTo]
    | succ m ih =>
      intro hm
      obtain ⟨i1, i2⟩ := ih (by omega)
      rw [Lib.compactUpTo_succ]
      split
      · rename_i hk
        refine ⟨List.pairwise_append.2 ⟨i1, by simp, fun a ha b hb => ?_⟩, fun z hz => ?_⟩
        · rw [List.mem_singleton, at_ m (by omega)] at hb
          subst hb
          obtain ⟨j, hj, rfl⟩ := i2 a ha
          have h1 := mono j (m - 1) (by omega) (by omega)
          have h2 := mono (m - 1) m (by omega) (by omega)
          have h3 : l.getD m 0 ≠ l.getD (m - 1) 0 := by
            have : m ≠ 0 := by omega
            simp only [Lib.keeps, this, false_or, decide_eq_true_eq] at hk
            rw [at_ m (by omega), at_ (m - 1) (by omega)] at hk
            exact hk
          omega
        · rcases List.mem_append.1 hz with hz | hz
          · obtain ⟨j, hj, e⟩ := i2 z hz; exact ⟨j, by omega, e⟩
          · rw [List.mem_singleton] at hz
            rw [at_ m (by omega)] at hz
            exact ⟨m, by omega, hz⟩
      · refine ⟨by simpa using i1, fun z hz => ?_⟩
        obtain ⟨j, hj, e⟩ := i2 z (by simpa using hz); exact ⟨j, by omega, e⟩
  exact (key l.length (Nat.le_refl _)).1
theorem syms_eq (b : List Int) : Lib.compact (sortL b) = symsOf b := by
  refine rise_eq _ _ (compact_rise _ ?_) (symsOf_rise b) fun z => by rw [mem_comp, mem_sortL, mem_symsOf]
  have := List.pairwise_mergeSort (le := fun x y : Int => decide (x ≤ y)) (fun a b c h1 h2 => by simp at *; omega) (fun a b => by simp; omega) b
  exact this.imp fun h => by simpa using h
end Go.Proofs.Ytippdbhefcmebaa.MaskX
