import Derived.Test.YtgelkklendpeoaaGreatNameC
namespace Go.Proofs.YtgelkklendpeoaaGreat.NameX
open Go Go.Proofs.YtgelkklendpeoaaGreat.AE
set_option linter.unusedVariables false
set_option linter.unusedSimpArgs false
/-! Lists of tokens that rise. -/
def SS (l : List (List Int)) : Prop := l.Pairwise fun a b => cmpL a b < 0
theorem cmpL_le_lt {a b c : List Int} (h : cmpL a b ≤ 0) (k : cmpL b c < 0) : cmpL a c < 0 := by
  by_cases h1 : cmpL a b = 0
  · rw [cmpL_zero h1]; exact k
  · exact cmpL_trans (by omega) k
theorem ddP_ss : ∀ (l : List (List Int)) (p : Option (List Int)), Srt l → (∀ q, p = some q → ∀ x ∈ l, cmpL q x ≤ 0) →
    SS (ddP p l) ∧ (∀ x ∈ ddP p l, ∀ q, p = some q → cmpL q x < 0) ∧ (∀ x, x ∈ ddP p l → x ∈ l) ∧ ∀ x ∈ l, x ∈ ddP p l ∨ p = some x
  | [], p, _, _ => by simp [ddP, SS]
  | x :: l, p, hs, hp => by
    have hs' := List.pairwise_cons.1 hs
    obtain ⟨i1, i2, i3, i4⟩ := ddP_ss l (some x) hs'.2 (fun q hq y hy => by cases hq; exact hs'.1 y hy)
    rw [ddP]
    by_cases h : p = some x
    · rw [if_pos h]
      refine ⟨i1, fun y hy q hq => ?_, fun y hy => List.mem_cons_of_mem _ (i3 y hy), fun y hy => ?_⟩
      · rw [h] at hq; cases hq; exact i2 y hy x rfl
      · rcases List.mem_cons.1 hy with rfl | hy
        · exact .inr h
        · rcases i4 y hy with k | k
          · exact .inl k
          · cases k; exact .inr h
    · rw [if_neg h]
      refine ⟨List.pairwise_cons.2 ⟨fun y hy => i2 y hy x rfl, i1⟩, fun y hy q hq => ?_, fun y hy => ?_, fun y hy => ?_⟩
      · have h0 := hp q hq x (List.mem_cons_self ..)
        rcases List.mem_cons.1 hy with rfl | hy
        · by_cases h1 : cmpL q y = 0
          · exact absurd (by rw [hq, cmpL_zero h1]) h
          · omega
        · exact cmpL_le_lt h0 (i2 y hy x rfl)
      · rcases List.mem_cons.1 hy with rfl | hy
        · exact List.mem_cons_self ..
        · exact List.mem_cons_of_mem _ (i3 y hy)
      · rcases List.mem_cons.1 hy with rfl | hy
        · exact .inl (List.mem_cons_self ..)
        · rcases i4 y hy with k | k
          · exact .inl (List.mem_cons_of_mem _ k)
          · cases k; exact .inl (List.mem_cons_self ..)
def dsort (l : List (List Int)) : List (List Int) := ddP none (isort l)
theorem dsort_ss (l : List (List Int)) : SS (dsort l) := (ddP_ss _ none (isort_srt l) (fun q hq => by cases hq)).1
theorem dsort_mem (l : List (List Int)) (x : List Int) : x ∈ dsort l ↔ x ∈ l := by
  obtain ⟨_, _, i3, i4⟩ := ddP_ss _ none (isort_srt l) (fun q hq => by cases hq)
  rw [← (isort_perm l).mem_iff]
  exact ⟨i3 x, fun h => (i4 x h).resolve_right (by simp)⟩
theorem dsort_len (l : List (List Int)) : (dsort l).length ≤ l.length := by
  have h := ddP_len (isort l) none
  rw [(isort_perm l).length_eq] at h
  exact h
theorem ss_uniq : ∀ {a b : List (List Int)}, SS a → SS b → (∀ x, x ∈ a ↔ x ∈ b) → a = b
  | [], [], _, _, _ => rfl
  | [], y :: b, _, _, h => absurd ((h y).2 (List.mem_cons_self ..)) (by simp)
  | x :: a, [], _, _, h => absurd ((h x).1 (List.mem_cons_self ..)) (by simp)
  | x :: a, y :: b, ha, hb, h => by
    have ha' := List.pairwise_cons.1 ha
    have hb' := List.pairwise_cons.1 hb
    have e : x = y := by
      rcases List.mem_cons.1 ((h x).1 (List.mem_cons_self ..)) with e | h1
      · exact e
      · rcases List.mem_cons.1 ((h y).2 (List.mem_cons_self ..)) with e | h2
        · exact e.symm
        · have k1 := ha'.1 y h2
          have k2 := hb'.1 x h1
          rw [cmpL_neg] at k2
          omega
    subst e
    rw [ss_uniq ha'.2 hb'.2 fun z => ⟨fun hz => ?_, fun hz => ?_⟩]
    · rcases List.mem_cons.1 ((h z).1 (List.mem_cons_of_mem _ hz)) with rfl | k
      · have := ha'.1 z hz; rw [cmpL_refl] at this; omega
      · exact k
    · rcases List.mem_cons.1 ((h z).2 (List.mem_cons_of_mem _ hz)) with rfl | k
      · have := hb'.1 z hz; rw [cmpL_refl] at this; omega
      · exact k
/-- Each one put where it belongs, if it is not there. -/
def insS (x : List Int) : List (List Int) → List (List Int)
  | [] => [x]
  | y :: d => if cmpL y x < 0 then y :: insS x d else if y = x then y :: d else x :: y :: d
theorem insS_mem (x z : List Int) : ∀ d, z ∈ insS x d ↔ z = x ∨ z ∈ d
  | [] => by simp [insS]
  | y :: d => by
    rw [insS]
    split
    · rw [List.mem_cons, insS_mem x z d, List.mem_cons]
      constructor
      · rintro (h | h | h) <;> simp [h]
      · rintro (h | h | h) <;> simp [h]
    · split
      · rename_i h; subst h; simp
      · simp
theorem insS_ss (x : List Int) : ∀ d, SS d → SS (insS x d)
  | [], _ => List.pairwise_singleton _ _
  | y :: d, h => by
    have h' := List.pairwise_cons.1 h
    rw [insS]
    split
    · rename_i hy
      refine List.pairwise_cons.2 ⟨fun z hz => ?_, insS_ss x d h'.2⟩
      rcases (insS_mem x z d).1 hz with rfl | hz
      · exact hy
      · exact h'.1 z hz
    · split
      · exact h
      · rename_i h1 h2
        have h3 : cmpL x y < 0 := by
          rw [cmpL_neg]
          by_cases h4 : cmpL y x = 0
          · exact absurd (cmpL_zero h4) h2
          · omega
        refine List.pairwise_cons.2 ⟨fun z hz => ?_, h⟩
        rcases List.mem_cons.1 hz with rfl | hz
        · exact h3
        · exact cmpL_trans h3 (h'.1 z hz)
theorem insS_len (x : List Int) : ∀ d, (insS x d).length ≤ d.length + 1
  | [] => by simp [insS]
  | y :: d => by
    rw [insS]
    have := insS_len x d
    split
    · simp only [List.length_cons]; omega
    · split <;> simp
/-- How many stand below. -/
def blw (x : List Int) : List (List Int) → Nat
  | [] => 0
  | y :: d => if cmpL y x < 0 then blw x d + 1 else 0
theorem blw_le (x : List Int) : ∀ d, blw x d ≤ d.length
  | [] => Nat.le_refl _
  | y :: d => by
    rw [blw]
    have := blw_le x d
    split
    · simp only [List.length_cons]; omega
    · omega
theorem insS_eq (x : List Int) : ∀ d, insS x d = if d[blw x d]? = some x then d else d.take (blw x d) ++ [x] ++ d.drop (blw x d)
  | [] => by simp [insS, blw]
  | y :: d => by
    rw [insS, blw]
    by_cases h : cmpL y x < 0
    · rw [if_pos h, if_pos h, insS_eq x d, List.getElem?_cons_succ, List.take_succ_cons, List.drop_succ_cons]
      split <;> simp
    · rw [if_neg h, if_neg h]
      simp only [List.getElem?_cons_zero, Option.some.injEq, List.take_zero, List.drop_zero, List.nil_append]
      rfl
def rsort (l : List (List Int)) (d : List (List Int)) : List (List Int) := l.foldl (fun d x => insS x d) d
theorem rsort_spec : ∀ (l d : List (List Int)), SS d → SS (rsort l d) ∧ (∀ z, z ∈ rsort l d ↔ z ∈ l ∨ z ∈ d) ∧ (rsort l d).length ≤ d.length + l.length
  | [], d, h => ⟨h, fun z => by simp [rsort], by simp [rsort]⟩
  | x :: l, d, h => by
    obtain ⟨i1, i2, i3⟩ := rsort_spec l (insS x d) (insS_ss x d h)
    refine ⟨i1, fun z => ?_, ?_⟩
    · show z ∈ rsort l (insS x d) ↔ _
      rw [i2 z, insS_mem, List.mem_cons]
      constructor
      · rintro (h | h | h) <;> simp [h]
      · rintro ((h | h) | h) <;> simp [h]
    · have := insS_len x d
      show (rsort l (insS x d)).length ≤ _
      simp only [List.length_cons]
      omega
theorem rsort_eq (l : List (List Int)) : rsort l [] = dsort l := by
  obtain ⟨i1, i2, _⟩ := rsort_spec l [] List.Pairwise.nil
  exact ss_uniq i1 (dsort_ss l) fun z => by rw [i2, dsort_mem]; simp
/-- A token's place. -/
def pos (t : List Int) : List (List Int) → Option Nat
  | [] => none
  | x :: d => if x = t then some 0 else match pos t d with | some k => some (k + 1) | none => none
theorem pos_get {t : List Int} : ∀ {d : List (List Int)} {k : Nat}, pos t d = some k → d[k]? = some t
  | [], k, h => by cases h
  | x :: d, k, h => by
    rw [pos] at h
    by_cases e : x = t
    · rw [if_pos e] at h; cases h; rw [e]; rfl
    · rw [if_neg e] at h
      cases hp : pos t d with
      | none => rw [hp] at h; cases h
      | some k' =>
        rw [hp] at h; cases h
        have e3 := pos_get hp
        rw [List.getElem?_cons_succ]
        exact e3
theorem pos_none {t : List Int} : ∀ {d : List (List Int)}, pos t d = none → t ∉ d
  | [], _ => by simp
  | x :: d, h => by
    rw [pos] at h
    by_cases e : x = t
    · rw [if_pos e] at h; cases h
    · rw [if_neg e] at h
      cases hp : pos t d with
      | none =>
        intro hm
        rcases List.mem_cons.1 hm with e2 | hm
        · exact e e2.symm
        · exact pos_none hp hm
      | some k' => rw [hp] at h; cases h
theorem ss_lt {d : List (List Int)} (h : SS d) {i j : Nat} {a b : List Int} (hi : d[i]? = some a) (hj : d[j]? = some b) (hij : i < j) : cmpL a b < 0 := by
  obtain ⟨h1, e1⟩ := List.getElem?_eq_some_iff.1 hi
  obtain ⟨h2, e2⟩ := List.getElem?_eq_some_iff.1 hj
  rw [← e1, ← e2]
  exact List.pairwise_iff_getElem.1 h i j h1 h2 hij
theorem ss_inj {d : List (List Int)} (h : SS d) {i j : Nat} {a : List Int} (hi : d[i]? = some a) (hj : d[j]? = some a) : i = j := by
  rcases Nat.lt_trichotomy i j with k | k | k
  · have := ss_lt h hi hj k; rw [cmpL_refl] at this; omega
  · exact k
  · have := ss_lt h hj hi k; rw [cmpL_refl] at this; omega
theorem pos_of {d : List (List Int)} (h : SS d) {t : List Int} {k : Nat} (hk : d[k]? = some t) : pos t d = some k := by
  cases hp : pos t d with
  | none => exact absurd (List.mem_of_getElem? hk) (pos_none hp)
  | some k' => rw [ss_inj h (pos_get hp) hk]
theorem pos_mem {d : List (List Int)} {t : List Int} (h : t ∈ d) : ∃ k, pos t d = some k := by
  cases hp : pos t d with
  | none => exact absurd h (pos_none hp)
  | some k => exact ⟨k, rfl⟩
theorem pos_lt {d : List (List Int)} {t : List Int} {k : Nat} (h : pos t d = some k) : k < d.length := (List.getElem?_eq_some_iff.1 (pos_get h)).1
def idsF (d : List (List Int)) : List (List Int) → Option (List Int)
  | [] => some []
  | x :: l => match pos x d, idsF d l with
    | some k, some r => some ((k : Int) :: r)
    | _, _ => none
theorem idsF_some {d : List (List Int)} : ∀ (l : List (List Int)), (∀ x ∈ l, x ∈ d) → ∃ r, idsF d l = some r
  | [], _ => ⟨[], rfl⟩
  | x :: l, h => by
    obtain ⟨k, hk⟩ := pos_mem (h x (List.mem_cons_self ..))
    obtain ⟨r, hr⟩ := idsF_some l fun y hy => h y (List.mem_cons_of_mem _ hy)
    exact ⟨(k : Int) :: r, by rw [idsF, hk, hr]⟩
theorem idsF_len {d : List (List Int)} : ∀ {l : List (List Int)} {r : List Int}, idsF d l = some r → r.length = l.length
  | [], r, h => by cases h; rfl
  | x :: l, r, h => by
    rw [idsF] at h
    split at h
    · rename_i k r' hk hr'; cases h; rw [List.length_cons, List.length_cons, idsF_len hr']
    · cases h
theorem idsF_get {d : List (List Int)} : ∀ {l : List (List Int)} {r : List Int}, idsF d l = some r → ∀ {i : Nat} {x : List Int}, l[i]? = some x → ∃ k : Nat, r[i]? = some (k : Int) ∧ pos x d = some k
  | [], r, h, i, x, hx => by simp at hx
  | y :: l, r, h, i, x, hx => by
    rw [idsF] at h
    split at h
    · rename_i k r' hk hr'
      cases h
      cases i with
      | zero => cases hx; exact ⟨k, rfl, hk⟩
      | succ i => exact idsF_get hr' hx
    · cases h
end Go.Proofs.YtgelkklendpeoaaGreat.NameX
