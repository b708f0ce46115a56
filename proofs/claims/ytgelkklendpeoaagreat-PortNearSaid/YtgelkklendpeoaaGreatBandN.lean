/- The band's rows: what is told of the distances. -/
import Derived.Test.YtgelkklendpeoaaGreatWP
import Derived.Test.YtgelkklendpeoaaGreatLcsT
namespace Go.Proofs.YtgelkklendpeoaaGreat.BandN
open Go Go.RowKit Go.Proofs.YtgelkklendpeoaaGreatW.PrintWords Go.Proofs.YtgelkklendpeoaaGreat.Lcs
set_option linter.unusedVariables false
set_option linter.unusedSimpArgs false
/-- The distance of beginnings. -/
def dI (a b : List Int) (i j : Nat) : Int := (i : Int) + (j : Int) - 2 * (tabF a b i j : Int)
theorem tab_le (a b : List Int) (i j : Nat) : tabF a b i j ≤ i ∧ tabF a b i j ≤ j := by
  have h1 := lcs_le (a.take i).reverse (b.take j).reverse
  have h2 := lcs_le2 (a.take i).reverse (b.take j).reverse
  rw [List.length_reverse, List.length_take] at h1 h2
  unfold tabF
  omega
theorem dI_far (a b : List Int) (i j : Nat) : (i : Int) - (j : Int) ≤ dI a b i j ∧ (j : Int) - (i : Int) ≤ dI a b i j := by
  have := tab_le a b i j
  unfold dI
  omega
theorem dI_top (a b : List Int) (i j : Nat) : dI a b i j ≤ (i : Int) + (j : Int) := by unfold dI; omega
theorem dI_row0 (a b : List Int) (j : Nat) : dI a b 0 j = (j : Int) := by unfold dI; rw [tabF_zero]; omega
theorem dI_col0 (a b : List Int) (i : Nat) : dI a b i 0 = (i : Int) := by unfold dI; rw [tabF_zero2]; omega
theorem dI_eq (a b : List Int) (i j : Nat) (hi : i < a.length) (hj : j < b.length) (h : a[i] = b[j]) : dI a b (i + 1) (j + 1) = dI a b i j := by
  unfold dI
  rw [tabF_succ a b i j hi hj, if_pos h]
  omega
theorem dI_ne (a b : List Int) (i j : Nat) (hi : i < a.length) (hj : j < b.length) (h : ¬ a[i] = b[j]) : dI a b (i + 1) (j + 1) = 1 + min (dI a b i (j + 1)) (dI a b (i + 1) j) := by
  unfold dI
  rw [tabF_succ a b i j hi hj, if_neg h]
  omega
/-- One to the left of the right thing: the walls of the band. -/
structure Band where
  n : Nat
  m : Nat
  k : Int
  lo : Int
  hi : Int
  hk : (n : Int) - (m : Int) ≤ k ∧ (m : Int) - (n : Int) ≤ k
  inb : ∀ i j : Int, 0 ≤ i → i ≤ n → 0 ≤ j → j ≤ m → ∀ D : Int, i - j ≤ D → j - i ≤ D → D + (((n : Int) - i) - ((m : Int) - j)) ≤ k → D - (((n : Int) - i) - ((m : Int) - j)) ≤ k → lo ≤ i - j ∧ i - j ≤ hi
  lo0 : lo ≤ 0
  hi0 : 0 ≤ hi
  low : lo ≤ (n : Int) - (m : Int) ∧ (n : Int) - (m : Int) ≤ hi
  small : -(1099511627776 : Int) ≤ lo ∧ hi ≤ 1099511627776
/-- What a cell tells. -/
def Cell (a b : List Int) (B : Band) (i j : Nat) (v : Int) : Prop :=
  dI a b i j ≤ v ∧ v ≤ 1152921504606846976 ∧ (dI a b i j + (((B.n : Int) - i) - ((B.m : Int) - j)) ≤ B.k → dI a b i j - (((B.n : Int) - i) - ((B.m : Int) - j)) ≤ B.k → v = dI a b i j)
def fst (B : Band) (i : Nat) : Int := max 0 ((i : Int) - B.hi)
def lst (B : Band) (i : Nat) : Int := min (B.m : Int) ((i : Int) - B.lo)
/-- A row, up to a column. -/
structure Row (a b : List Int) (B : Band) (i : Nat) (upto : Int) (f : Int) (d : List Int) : Prop where
  first : f = fst B i
  len : (d.length : Int) = upto - f
  cell : ∀ j : Nat, f ≤ (j : Int) → (j : Int) < upto → Cell a b B i j (d.getD ((j : Int) - f).toNat 0)
/-- A row as it is asked. -/
def atL (f : Int) (d : List Int) (j : Int) : Int := if j < f then 1152921504606846976 else if j ≥ f + (d.length : Int) then 1152921504606846976 else d.getD (j - f).toNat 0
theorem at_in {a b : List Int} {B : Band} {i : Nat} {u f : Int} {d : List Int} (h : Row a b B i u f d) (j : Nat) (h1 : f ≤ (j : Int)) (h2 : (j : Int) < u) : Cell a b B i j (atL f d j) := by
  unfold atL
  rw [if_neg (by omega), if_neg (by have := h.len; omega)]
  exact h.cell j h1 h2
theorem at_low {a b : List Int} {B : Band} (ha : a.length ≤ 1000) (hb : b.length ≤ 1000) {i : Nat} (hi : i ≤ a.length) {u f : Int} {d : List Int} (h : Row a b B i u f d) (hu : u ≤ (b.length : Int) + 1) (j : Nat) (hj : j ≤ b.length) : dI a b i j ≤ atL f d j ∧ atL f d j ≤ 1152921504606846976 := by
  have ht := dI_top a b i j
  by_cases c : f ≤ (j : Int) ∧ (j : Int) < u
  · have := at_in h j c.1 c.2
    exact ⟨this.1, this.2.1⟩
  · have hl := h.len
    unfold atL
    by_cases c1 : (j : Int) < f
    · rw [if_pos c1]; omega
    · rw [if_neg c1, if_pos (by omega)]; omega
theorem take_sub (a : List Int) (i : Nat) : (a.take i).reverse.Sublist (a.take (i + 1)).reverse := by
  have e : a.take i = (a.take (i + 1)).take i := by rw [List.take_take]; congr 1; omega
  rw [e]
  exact List.reverse_sublist.2 (List.take_sublist i _)
theorem tab_up (a b : List Int) (i j : Nat) : tabF a b i j ≤ tabF a b (i + 1) j := by
  obtain ⟨s, h1, h2, h3⟩ := lcs_ex _ (a.take i).reverse (b.take j).reverse (Nat.le_refl _)
  have := lcs_ge _ (a.take (i + 1)).reverse (b.take j).reverse s (Nat.le_refl _) (h1.trans (take_sub a i)) h2
  unfold tabF
  omega
theorem tab_right (a b : List Int) (i j : Nat) : tabF a b i j ≤ tabF a b i (j + 1) := by
  obtain ⟨s, h1, h2, h3⟩ := lcs_ex _ (a.take i).reverse (b.take j).reverse (Nat.le_refl _)
  have := lcs_ge _ (a.take i).reverse (b.take (j + 1)).reverse s (Nat.le_refl _) h1 (h2.trans (take_sub b j))
  unfold tabF
  omega
theorem dI_up (a b : List Int) (i j : Nat) : dI a b (i + 1) j ≤ dI a b i j + 1 := by
  have := tab_up a b i j
  unfold dI
  omega
theorem dI_right (a b : List Int) (i j : Nat) : dI a b i (j + 1) ≤ dI a b i j + 1 := by
  have := tab_right a b i j
  unfold dI
  omega
abbrev FAR : Int := 1152921504606846976
def val (a b : List Int) (i j : Nat) (f' : Int) (d' : List Int) (f : Int) (d : List Int) : Int :=
  if i = 0 ∧ j = 0 then 0 else if 0 < i ∧ 0 < j ∧ a.getD (i - 1) 0 = b.getD (j - 1) 0 then atL f' d' ((j : Int) - 1) else min (min FAR (atL f' d' (j : Int) + 1)) (atL f d ((j : Int) - 1) + 1)
theorem at_nil (f j : Int) : atL f [] j = FAR := by
  unfold atL
  split
  · rfl
  · rw [if_pos (by simp; omega)]
theorem val_cell (a b : List Int) (B : Band) (hn : B.n = a.length) (hm : B.m = b.length) (ha : a.length ≤ 1000) (hb : b.length ≤ 1000) (i j : Nat) (hi : i ≤ a.length) (hj : j ≤ b.length) (f' : Int) (d' : List Int) (f : Int) (d : List Int)
    (h0 : i = 0 → d' = []) (h1 : ∀ i', i = i' + 1 → Row a b B i' (lst B i' + 1) f' d') (hr : Row a b B i (j : Int) f d) (c1 : fst B i ≤ (j : Int)) (c2 : (j : Int) ≤ lst B i) : Cell a b B i j (val a b i j f' d' f d) := by
  have hFAR : FAR = 1152921504606846976 := rfl
  have hf := hr.first
  have hu : (j : Int) ≤ (b.length : Int) + 1 := by omega
  have lstm : ∀ i : Nat, lst B i + 1 ≤ (b.length : Int) + 1 := fun i => by unfold lst; omega
  unfold val
  by_cases z : i = 0 ∧ j = 0
  · rw [if_pos z]
    obtain ⟨rfl, rfl⟩ := z
    have e := dI_row0 a b 0
    exact ⟨by rw [e]; omega, by omega, fun _ _ => by rw [e]; rfl⟩
  · rw [if_neg z]
    by_cases mt : 0 < i ∧ 0 < j ∧ a.getD (i - 1) 0 = b.getD (j - 1) 0
    · rw [if_pos mt]
      obtain ⟨i', rfl⟩ : ∃ i', i = i' + 1 := ⟨i - 1, by omega⟩
      obtain ⟨j', rfl⟩ : ∃ j', j = j' + 1 := ⟨j - 1, by omega⟩
      have hR := h1 i' rfl
      have hi' : i' < a.length := by omega
      have hj' : j' < b.length := by omega
      have hab : a[i'] = b[j'] := by
        have := mt.2.2
        simpa [List.getD, hi', hj'] using this
      have hf' := hR.first
      have e := dI_eq a b i' j' hi' hj' hab
      unfold fst at c1
      unfold lst at c2
      have g := at_in hR j' (by rw [hf']; unfold fst; omega) (by unfold lst; omega)
      have ej : ((j' + 1 : Nat) : Int) - 1 = (j' : Int) := by omega
      rw [ej]
      obtain ⟨g1, g2, g3⟩ := g
      refine ⟨by rw [e]; exact g1, g2, fun q1 q2 => ?_⟩
      rw [e] at q1 q2 ⊢
      exact g3 (by omega) (by omega)
    · rw [if_neg mt]
      have hA : FAR ≥ atL f' d' (j : Int) ∧ (∀ i', i = i' + 1 → dI a b i' j ≤ atL f' d' (j : Int)) ∧ (i = 0 → atL f' d' (j : Int) = FAR) := by
        refine ⟨?_, fun i' hi' => (at_low ha hb (by omega) (h1 i' hi') (lstm i') j hj).1, fun h => by rw [h0 h, at_nil]⟩
        cases i with
        | zero => rw [h0 rfl, at_nil]; omega
        | succ i' => exact (at_low ha hb (by omega) (h1 i' rfl) (lstm i') j hj).2
      have hB : FAR ≥ atL f d ((j : Int) - 1) ∧ (∀ j', j = j' + 1 → dI a b i j' ≤ atL f d ((j : Int) - 1)) ∧ (j = 0 → atL f d ((j : Int) - 1) = FAR) := by
        have hz : j = 0 → atL f d ((j : Int) - 1) = FAR := fun h => by
          unfold atL
          rw [if_pos (by rw [hf]; unfold fst; omega)]
        refine ⟨?_, fun j' hj' => ?_, hz⟩
        · cases j with
          | zero => rw [hz rfl]; omega
          | succ j' =>
            have := (at_low ha hb hi hr hu j' (by omega)).2
            rw [show ((j' + 1 : Nat) : Int) - 1 = (j' : Int) by omega]
            exact this
        · subst hj'
          have := (at_low ha hb hi hr hu j' (by omega)).1
          rw [show ((j' + 1 : Nat) : Int) - 1 = (j' : Int) by omega]
          exact this
      generalize hAA : atL f' d' (j : Int) = A at *
      generalize hBB : atL f d ((j : Int) - 1) = Bv at *
      have htop := dI_top a b i j
      have lowA : dI a b i j ≤ A + 1 := by
        cases i with
        | zero => have := hA.2.2 rfl; omega
        | succ i' => have h2 := hA.2.1 i' rfl; have h3 := dI_up a b i' j; omega
      have lowB : dI a b i j ≤ Bv + 1 := by
        cases j with
        | zero => have := hB.2.2 rfl; omega
        | succ j' => have h2 := hB.2.1 j' rfl; have h3 := dI_right a b i j'; omega
      refine ⟨by omega, by omega, fun q1 q2 => ?_⟩
      suffices h : min (min FAR (A + 1)) (Bv + 1) ≤ dI a b i j by omega
      -- through the left neighbour, or the one above
      have viaB : ∀ j', j = j' + 1 → dI a b i j' = dI a b i j - 1 → Bv + 1 = dI a b i j := fun j' ej e => by
        subst ej
        have far := dI_far a b i j'
        have w := B.inb i j' (by omega) (by omega) (by omega) (by omega) (dI a b i j') far.1 far.2 (by omega) (by omega)
        have g := at_in hr j' (by rw [hf]; unfold fst; omega) (by omega)
        have e2 : atL f d (j' : Int) = Bv := by rw [← hBB]; congr 1; omega
        rw [e2] at g
        have := g.2.2 (by omega) (by omega)
        omega
      have viaA : ∀ i', i = i' + 1 → dI a b i' j = dI a b i j - 1 → A + 1 = dI a b i j := fun i' ei e => by
        subst ei
        have hR := h1 i' rfl
        have hf' := hR.first
        have far := dI_far a b i' j
        have w := B.inb i' j (by omega) (by omega) (by omega) (by omega) (dI a b i' j) far.1 far.2 (by omega) (by omega)
        have g := at_in hR j (by rw [hf']; unfold fst; omega) (by unfold lst; omega)
        rw [hAA] at g
        have := g.2.2 (by omega) (by omega)
        omega
      cases i with
      | zero =>
        obtain ⟨j', rfl⟩ : ∃ j', j = j' + 1 := ⟨j - 1, by omega⟩
        have := viaB j' rfl (by rw [dI_row0, dI_row0]; omega)
        omega
      | succ i' =>
        cases j with
        | zero =>
          have := viaA i' rfl (by rw [dI_col0, dI_col0]; omega)
          omega
        | succ j' =>
          have hi' : i' < a.length := by omega
          have hj' : j' < b.length := by omega
          have hab : ¬ a[i'] = b[j'] := fun h => mt ⟨by omega, by omega, by simpa [List.getD, hi', hj'] using h⟩
          have e := dI_ne a b i' j' hi' hj' hab
          by_cases cm : dI a b i' (j' + 1) ≤ dI a b (i' + 1) j'
          · have := viaA i' rfl (by omega)
            omega
          · have := viaB j' rfl (by omega)
            omega
end Go.Proofs.YtgelkklendpeoaaGreat.BandN
