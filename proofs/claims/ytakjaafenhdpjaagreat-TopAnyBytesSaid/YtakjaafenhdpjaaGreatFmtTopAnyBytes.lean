import Derived.Test.YtakjaafenhdpjaaGreatNumTopAnyBytes
import Derived.Test.YtakjaafenhdpjaaGreatBytesX
namespace Go.Proofs.YtakjaafenhdpjaaGreat.ETopAnyBytes
open Go Go.Proofs.YtakjaafenhdpjaaGreat.AE Go.Proofs.YtakjaafenhdpjaaGreat
set_option linter.unusedVariables false
set_option linter.unusedSimpArgs false
/-! Bytes of a script, and what is read of them. -/
def dg (n : Nat) : List Int := BytesX.digB 20 n
theorem digB_fuel : ∀ (f g u : Nat), u < 10 ^ f → u < 10 ^ g → BytesX.digB (f + 1) u = BytesX.digB (g + 1) u
  | 0, g, u, h, _ => by
    have : u = 0 := by simpa using h
    subst this
    simp [BytesX.digB]
  | f + 1, 0, u, _, h => by
    have : u = 0 := by simpa using h
    subst this
    simp [BytesX.digB]
  | f + 1, g + 1, u, h1, h2 => by
    have ih := digB_fuel f g (u / 10) (by rw [Nat.pow_succ] at h1; omega) (by rw [Nat.pow_succ] at h2; omega)
    show (if u < 10 then _ else BytesX.digB (f + 1) (u / 10) ++ _) = (if u < 10 then _ else BytesX.digB (g + 1) (u / 10) ++ _)
    rw [ih]
theorem dg_small {u : Nat} (h : u < 10) : dg u = [((48 + u : Nat) : Int)] := by
  unfold dg
  rw [BytesX.digB, if_pos h]
theorem dg_step {u : Nat} (h : 10 ≤ u) (h2 : u ≤ 100000000) : dg u = dg (u / 10) ++ [((48 + u % 10 : Nat) : Int)] := by
  unfold dg
  rw [BytesX.digB, if_neg (by omega), digB_fuel 18 19 (u / 10) (by omega) (by omega)]
theorem dg_digit : ∀ (u : Nat), u ≤ 100000000 → ∀ x ∈ dg u, 48 ≤ x ∧ x ≤ 57 := by
  intro u
  induction u using Nat.strongRecOn with
  | _ u ih =>
    intro hu x hx
    by_cases h : u < 10
    · rw [dg_small h] at hx
      simp at hx
      omega
    · rw [dg_step (by omega) hu] at hx
      rcases List.mem_append.1 hx with h1 | h1
      · exact ih (u / 10) (by omega) (by omega) x h1
      · simp at h1
        omega
theorem dg_pos (u : Nat) (hu : u ≤ 100000000) : 0 < (dg u).length := by
  by_cases h : u < 10
  · rw [dg_small h]; simp
  · rw [dg_step (by omega) hu]; simp
theorem scan_dg : ∀ (u : Nat) (r : List Int), u ≤ 1048576 → scan (dg u ++ r) 0 0 = scan r (u : Int) (dg u).length := by
  intro u
  induction u using Nat.strongRecOn with
  | _ u ih =>
    intro r hu
    by_cases h : u < 10
    · rw [dg_small h]
      show scan (((48 + u : Nat) : Int) :: r) 0 0 = _
      rw [scan, if_pos (by omega), if_neg (by omega)]
      congr 1
      omega
    · rw [dg_step (by omega) (by omega), List.append_assoc, ih (u / 10) (by omega) _ (by omega)]
      have hp := dg_pos (u / 10) (by omega)
      show scan (((48 + u % 10 : Nat) : Int) :: r) _ _ = _
      rw [scan, if_pos (by omega), if_neg (by omega), List.length_append, List.length_singleton]
      congr 1
      omega
theorem scan_stop {r : List Int} {n : Int} {c : Nat} (hc : 0 < c) (h : ∀ x l, r = x :: l → ¬ (48 ≤ x ∧ x ≤ 57)) : scan r n c = some (n, c) := by
  cases r with
  | nil => rw [scan, if_neg (by omega)]
  | cons x l => rw [scan, if_neg (h x l rfl), if_neg (by omega)]
/-- A number, and what is no digit behind it. -/
theorem scan_num {u : Nat} (hu : u ≤ 1048576) {c : Int} {r : List Int} (hc : ¬ (48 ≤ c ∧ c ≤ 57)) : scan (dg u ++ c :: r) 0 0 = some ((u : Int), (dg u).length) := by
  rw [scan_dg u _ hu]
  exact scan_stop (dg_pos u (by omega)) (by rintro x l h; cases h; exact hc)
theorem scan_back : ∀ (l : List Int) (n : Nat) (v : Int) (c' : Nat), n ≤ 1048576 → scan l (n : Int) (dg n).length = some (v, c') →
    ∃ (u : Nat) (r : List Int), v = (u : Int) ∧ u ≤ 1048576 ∧ c' = (dg u).length ∧ dg n ++ l = dg u ++ r
  | [], n, v, c', hn, h => by
    have hp := dg_pos n (by omega)
    rw [scan, if_neg (by omega)] at h
    cases h
    exact ⟨n, [], rfl, hn, rfl, rfl⟩
  | x :: l, n, v, c', hn, h => by
    have hp := dg_pos n (by omega)
    rw [scan] at h
    split at h
    · rename_i hx
      split at h
      · cases h
      · rename_i hb
        have hn0 : ¬ ((n : Int) = 0) := by omega
        obtain ⟨d, hd⟩ : ∃ d : Nat, x = ((48 + d : Nat) : Int) := ⟨(x - 48).toNat, by omega⟩
        have e1 : 10 * (n : Int) + (x - 48) = ((10 * n + d : Nat) : Int) := by omega
        have e2 : dg (10 * n + d) = dg n ++ [x] := by
          rw [dg_step (by omega) (by omega), hd, show (10 * n + d) / 10 = n by omega, show (10 * n + d) % 10 = d by omega]
        have e3 : (dg n).length + 1 = (dg (10 * n + d)).length := by rw [e2]; simp
        rw [e1, e3] at h
        obtain ⟨u, r, h1, h2, h3, h4⟩ := scan_back l (10 * n + d) v c' (by omega) h
        exact ⟨u, r, h1, h2, h3, by rw [← h4, e2]; simp⟩
    · rw [if_neg (by omega)] at h
      cases h
      exact ⟨n, x :: l, rfl, hn, rfl, rfl⟩
theorem scan_of {l : List Int} {v : Int} {c' : Nat} (h : scan l 0 0 = some (v, c')) : ∃ (u : Nat) (r : List Int), v = (u : Int) ∧ u ≤ 1048576 ∧ c' = (dg u).length ∧ l = dg u ++ r := by
  cases l with
  | nil => simp [scan] at h
  | cons x l =>
    rw [scan] at h
    split at h
    · rename_i hx
      split at h
      · cases h
      · obtain ⟨d, hd⟩ : ∃ d : Nat, x = ((48 + d : Nat) : Int) := ⟨(x - 48).toNat, by omega⟩
        have e1 : 10 * (0 : Int) + (x - 48) = ((d : Nat) : Int) := by omega
        have e2 : dg d = [x] := by rw [dg_small (by omega), hd]
        have e3 : 0 + 1 = (dg d).length := by rw [e2]; rfl
        rw [e1, e3] at h
        obtain ⟨u, r, h1, h2, h3, h4⟩ := scan_back l d v c' (by omega) h
        exact ⟨u, r, h1, h2, h3, by rw [← h4, e2]; rfl⟩
    · rw [if_pos rfl] at h
      cases h
def tokB (t : List Int) : List Int := dg t.length ++ 58 :: (t ++ [10])
def lineB (x y z : Nat) : List Int := 64 :: (dg x ++ 32 :: (dg y ++ 32 :: (dg z ++ [10])))
theorem at_cons {b : List Int} {f : Nat} {c : Int} : At b f c ↔ ∃ r, b.drop f = c :: r := by
  rw [← take_one]
  constructor
  · intro h
    cases hd : b.drop f with
    | nil => rw [hd] at h; cases h
    | cons x l =>
      rw [hd] at h
      simp at h
      exact ⟨l, by rw [h]⟩
  · rintro ⟨r, h⟩
    rw [h]; rfl
theorem drop_more {b : List Int} {f : Nat} {l r : List Int} (h : b.drop f = l ++ r) : b.drop (f + l.length) = r := by
  rw [← List.drop_drop, h, List.drop_left]
theorem tokS_iff (mode : Int) (b : List Int) (f : Nat) (t : List Int) (e : Nat) :
    tokS mode b f = some (t, e) ↔ isTok mode t = true ∧ t.length ≤ 1048576 ∧ (∃ r, b.drop f = tokB t ++ r) ∧ e = f + (tokB t).length := by
  constructor
  · intro h
    unfold tokS at h
    split at h
    · cases h
    · rename_i n c hs
      obtain ⟨u, r, rfl, hu, rfl, hl⟩ := scan_of hs
      split at h
      · rename_i a1
        split at h
        · rename_i a2
          split at h
          · rename_i ht
            obtain ⟨r1, hr1⟩ := at_cons.1 a1
            obtain ⟨r2, hr2⟩ := at_cons.1 a2
            have d1 := drop_more hl
            have er : r = 58 :: r1 := by rw [← d1, hr1]
            subst er
            have d2 : b.drop (f + (dg u).length + 1) = r1 := by
              have := drop_more (l := [58]) (r := r1) d1
              simpa using this
            rw [Int.toNat_natCast, ← List.drop_drop, d2] at hr2
            rw [Int.toNat_natCast, d2] at ht h
            cases h
            have hlen : (r1.take u).length = u := by
              rw [List.length_take]
              have : u < r1.length := by
                rcases Nat.lt_or_ge u r1.length with h | h
                · exact h
                · rw [List.drop_eq_nil_of_le h] at hr2; cases hr2
              omega
            refine ⟨ht, by omega, ⟨r2, ?_⟩, ?_⟩
            · unfold tokB
              rw [hl, hlen]
              simp only [List.append_assoc, List.cons_append, List.nil_append, List.append_cancel_left_eq, List.cons.injEq, true_and]
              rw [← hr2, List.take_append_drop]
            · unfold tokB
              simp only [List.length_append, List.length_cons, List.length_nil, hlen]
              omega
          · cases h
        · cases h
      · cases h
  · rintro ⟨ht, hl, ⟨r, hr⟩, rfl⟩
    unfold tokS
    have hr' := hr
    unfold tokB at hr
    simp only [List.append_assoc, List.cons_append, List.nil_append] at hr
    have d1 := drop_more hr
    have d2 : b.drop (f + (dg t.length).length + 1) = t ++ 10 :: r := by
      have := drop_more (l := [58]) (r := t ++ 10 :: r) d1
      simpa using this
    have d3 := drop_more d2
    rw [hr, scan_num hl (by omega)]
    simp only [Int.toNat_natCast]
    rw [if_pos (at_cons.2 ⟨_, d1⟩), if_pos (at_cons.2 ⟨_, d3⟩), d2, List.take_left, if_pos ht]
    unfold tokB
    simp only [List.length_append, List.length_cons, List.length_nil]
    congr 2
    omega
theorem lineS_iff (b : List Int) (f : Nat) (h0 : At b f 64) (X Y Z : Int) (e : Nat) :
    lineS b f = some (X, Y, Z, e) ↔ ∃ x y z : Nat, X = (x : Int) ∧ Y = (y : Int) ∧ Z = (z : Int) ∧ x ≤ 1048576 ∧ y ≤ 1048576 ∧ z ≤ 1048576 ∧ (∃ r, b.drop f = lineB x y z ++ r) ∧ e = f + (lineB x y z).length := by
  obtain ⟨r0, hr0⟩ := at_cons.1 h0
  have d0 : b.drop (f + 1) = r0 := by
    have := drop_more (l := [64]) (r := r0) hr0
    simpa using this
  constructor
  · intro h
    unfold lineS at h
    split at h
    · cases h
    · rename_i x1 c1 hs1
      obtain ⟨x, r1, rfl, hx, rfl, hl1⟩ := scan_of hs1
      have e1 := drop_more hl1
      split at h
      · rename_i a1
        obtain ⟨q1, hq1⟩ := at_cons.1 a1
        have f1 : b.drop (f + 1 + (dg x).length + 1) = q1 := by
          have := drop_more (l := [32]) (r := q1) hq1
          simpa using this
        split at h
        · cases h
        · rename_i y1 c2 hs2
          obtain ⟨y, r2, rfl, hy, rfl, hl2⟩ := scan_of hs2
          have e2 := drop_more hl2
          split at h
          · rename_i a2
            obtain ⟨q2, hq2⟩ := at_cons.1 a2
            have f2 : b.drop (f + 1 + (dg x).length + 1 + (dg y).length + 1) = q2 := by
              have := drop_more (l := [32]) (r := q2) hq2
              simpa using this
            split at h
            · cases h
            · rename_i z1 c3 hs3
              obtain ⟨z, r3, rfl, hz, rfl, hl3⟩ := scan_of hs3
              have e3 := drop_more hl3
              split at h
              · rename_i a3
                obtain ⟨q3, hq3⟩ := at_cons.1 a3
                cases h
                refine ⟨x, y, z, rfl, rfl, rfl, hx, hy, hz, ⟨q3, ?_⟩, ?_⟩
                · unfold lineB
                  simp only [List.append_assoc, List.cons_append, List.nil_append]
                  rw [hr0, ← d0, hl1, ← e1, hq1, ← f1, hl2, ← e2, hq2, ← f2, hl3, ← e3, hq3]
                · unfold lineB
                  simp only [List.length_append, List.length_cons, List.length_nil]
                  omega
              · cases h
          · cases h
      · cases h
  · rintro ⟨x, y, z, rfl, rfl, rfl, hx, hy, hz, ⟨r, hr⟩, rfl⟩
    unfold lineS
    unfold lineB at hr
    simp only [List.append_assoc, List.cons_append, List.nil_append] at hr
    rw [hr] at hr0
    cases hr0
    have e1 := drop_more d0
    have f1 : b.drop (f + 1 + (dg x).length + 1) = dg y ++ 32 :: (dg z ++ 10 :: r) := by
      have := drop_more (l := [32]) e1
      simpa using this
    have e2 := drop_more f1
    have f2 : b.drop (f + 1 + (dg x).length + 1 + (dg y).length + 1) = dg z ++ 10 :: r := by
      have := drop_more (l := [32]) e2
      simpa using this
    have e3 := drop_more f2
    rw [d0, scan_num hx (by omega)]
    simp only
    rw [if_pos (at_cons.2 ⟨_, e1⟩), f1, scan_num hy (by omega)]
    simp only
    rw [if_pos (at_cons.2 ⟨_, e2⟩), f2, scan_num hz (by omega)]
    simp only
    rw [if_pos (at_cons.2 ⟨_, e3⟩)]
    unfold lineB
    simp only [List.length_append, List.length_cons, List.length_nil]
    congr 4
    omega
def toksB (l : List (List Int)) : List Int := (l.map tokB).flatten
theorem toksS_iff (mode : Int) (b : List Int) : ∀ (n f : Nat) (acc l : List (List Int)) (e : Nat),
    toksS mode b n f acc = .inl (l, e) ↔ ∃ ts, l = acc ++ ts ∧ ts.length = n ∧ (∀ t ∈ ts, isTok mode t = true ∧ t.length ≤ 1048576) ∧ (∃ r, b.drop f = toksB ts ++ r) ∧ e = f + (toksB ts).length
  | 0, f, acc, l, e => by
    unfold toksS
    constructor
    · intro h
      cases h
      exact ⟨[], by simp, rfl, by simp, ⟨_, rfl⟩, rfl⟩
    · rintro ⟨ts, rfl, h1, _, _, rfl⟩
      rw [List.length_eq_zero_iff] at h1
      subst h1
      simp [toksB]
  | n + 1, f, acc, l, e => by
    unfold toksS
    constructor
    · intro h
      split at h
      · cases h
      · rename_i t e1 ht
        obtain ⟨ts, rfl, h1, h2, ⟨r, h3⟩, rfl⟩ := (toksS_iff mode b n e1 (acc ++ [t]) l e).1 h
        obtain ⟨g1, g2, ⟨r1, g3⟩, rfl⟩ := (tokS_iff mode b f t e1).1 ht
        have d := drop_more g3
        refine ⟨t :: ts, by simp, by simp [h1], ?_, ⟨r, ?_⟩, ?_⟩
        · intro x hx
          rcases List.mem_cons.1 hx with rfl | hx
          · exact ⟨g1, g2⟩
          · exact h2 x hx
        · rw [g3, ← d, h3]
          simp [toksB]
        · simp only [toksB, List.map_cons, List.flatten_cons, List.length_append]
          omega
    · rintro ⟨ts, rfl, h1, h2, ⟨r, h3⟩, rfl⟩
      cases ts with
      | nil => simp at h1
      | cons t ts =>
        have h3' : b.drop f = tokB t ++ (toksB ts ++ r) := by rw [h3]; simp [toksB]
        have d := drop_more h3'
        have ht : tokS mode b f = some (t, f + (tokB t).length) := (tokS_iff mode b f t _).2 ⟨(h2 t (by simp)).1, (h2 t (by simp)).2, ⟨_, h3'⟩, rfl⟩
        rw [ht]
        refine (toksS_iff mode b n _ _ _ _).2 ⟨ts, by simp, by simpa using h1, fun x hx => h2 x (by simp [hx]), ⟨r, d⟩, ?_⟩
        simp only [toksB, List.map_cons, List.flatten_cons, List.length_append]
        omega
abbrev Hk : Type := Int × List (List Int) × List (List Int)
def stepS (mode : Int) (b : List Int) (f : Nat) (en : Int) : (Hk × Nat) ⊕ Nat :=
  match lineS b f with
  | none => .inr f
  | some (x, y, z, e) => if x ≤ en ∨ y + z = 0 then .inr f else match toksS mode b y.toNat e [] with
    | .inr p => .inr p
    | .inl (o, e1) => match toksS mode b z.toNat e1 [] with
      | .inr p => .inr p
      | .inl (n, e2) => .inl ((x, o, n), e2)
def hunksS (mode : Int) (b : List Int) : Nat → Nat → Int → List Hk → (List Hk × Nat) ⊕ Nat
  | 0, f, _, _ => .inr f
  | m + 1, f, en, acc => if At b f 64 then (match stepS mode b f en with
    | .inr p => .inr p
    | .inl (h, e) => hunksS mode b m e (h.1 + (h.2.1.length : Int)) (acc ++ [h])) else .inl (acc, f)
def hunkB (h : Hk) : List Int := lineB h.1.toNat h.2.1.length h.2.2.length ++ (toksB h.2.1 ++ toksB h.2.2)
def toksOk (mode : Int) (l : List (List Int)) : Prop := l.length ≤ 1048576 ∧ ∀ t ∈ l, isTok mode t = true ∧ t.length ≤ 1048576
def hOk (mode : Int) (en : Int) (h : Hk) : Prop := en < h.1 ∧ 0 ≤ h.1 ∧ h.1 ≤ 1048576 ∧ 0 < h.2.1.length + h.2.2.length ∧ toksOk mode h.2.1 ∧ toksOk mode h.2.2
theorem at_line {b : List Int} {f x y z : Nat} {r : List Int} (h : b.drop f = lineB x y z ++ r) : At b f 64 := at_cons.2 ⟨_, h⟩
theorem stepS_iff (mode : Int) (b : List Int) (f : Nat) (en : Int) (h0 : At b f 64) (h : Hk) (e : Nat) :
    stepS mode b f en = .inl (h, e) ↔ hOk mode en h ∧ (∃ r, b.drop f = hunkB h ++ r) ∧ e = f + (hunkB h).length := by
  constructor
  · intro hh
    unfold stepS at hh
    split at hh
    · cases hh
    · rename_i X Y Z e0 hl
      obtain ⟨x, y, z, rfl, rfl, rfl, hx, hy, hz, ⟨r, hr⟩, rfl⟩ := (lineS_iff b f h0 X Y Z e0).1 hl
      split at hh
      · cases hh
      · rename_i hen
        rw [Int.toNat_natCast] at hh
        split at hh
        · cases hh
        · rename_i o e1 ht1
          obtain ⟨ts1, q, g1, g2, ⟨r1, g3⟩, rfl⟩ := (toksS_iff mode b y _ [] o e1).1 ht1
          rw [List.nil_append] at q
          subst q
          rw [Int.toNat_natCast] at hh
          split at hh
          · cases hh
          · rename_i n e2 ht2
            obtain ⟨ts2, q, k1, k2, ⟨r2, k3⟩, rfl⟩ := (toksS_iff mode b z _ [] n e2).1 ht2
            rw [List.nil_append] at q
            subst q
            cases hh
            have d1 := drop_more hr
            have d2 := drop_more g3
            subst g1
            subst k1
            refine ⟨⟨by show en < (x : Int); omega, by show (0 : Int) ≤ (x : Int); omega, by show (x : Int) ≤ _; omega, by show 0 < o.length + n.length; omega, ⟨hy, g2⟩, ⟨hz, k2⟩⟩, ⟨r2, ?_⟩, ?_⟩
            · unfold hunkB
              simp only [Int.toNat_natCast, List.append_assoc]
              rw [hr, ← d1, g3, ← d2, k3]
            · unfold hunkB
              simp only [Int.toNat_natCast, List.length_append]
              omega
  · rintro ⟨⟨a1, a2, a3, a4, ⟨a5, a6⟩, a7, a8⟩, ⟨r, hr⟩, rfl⟩
    obtain ⟨X, o, n⟩ := h
    obtain ⟨x, rfl⟩ : ∃ x : Nat, X = (x : Int) := ⟨X.toNat, by simp only at a2; omega⟩
    simp only at a1 a2 a3 a4 a5 a6 a7 a8
    unfold hunkB at hr
    simp only [Int.toNat_natCast, List.append_assoc] at hr
    have d1 := drop_more hr
    have d2 := drop_more d1
    have hl : lineS b f = some ((x : Int), (o.length : Int), (n.length : Int), f + (lineB x o.length n.length).length) :=
      (lineS_iff b f h0 _ _ _ _).2 ⟨x, o.length, n.length, rfl, rfl, rfl, by omega, a5, a7, ⟨_, hr⟩, rfl⟩
    have t1 := (toksS_iff mode b o.length (f + (lineB x o.length n.length).length) [] o _).2 ⟨o, rfl, rfl, a6, ⟨_, d1⟩, rfl⟩
    have t2 := (toksS_iff mode b n.length (f + (lineB x o.length n.length).length + (toksB o).length) [] n _).2 ⟨n, rfl, rfl, a8, ⟨_, d2⟩, rfl⟩
    unfold stepS
    rw [hl]
    simp only [Int.toNat_natCast]
    rw [if_neg (by omega), t1]
    simp only
    rw [t2]
    unfold hunkB
    simp only [Int.toNat_natCast, List.length_append]
    congr 2
    omega
def hunksOk (mode : Int) : Int → List Hk → Prop
  | _, [] => True
  | en, h :: s => hOk mode en h ∧ hunksOk mode (h.1 + (h.2.1.length : Int)) s
def hunksB (s : List Hk) : List Int := (s.map hunkB).flatten
theorem hunkB_pos (h : Hk) : 0 < (hunkB h).length := by
  unfold hunkB lineB
  simp
theorem drop_len {b : List Int} {f : Nat} {l r : List Int} (h : b.drop f = l ++ r) (hl : 0 < l.length) : f + l.length ≤ b.length := by
  have := congrArg List.length h
  rw [List.length_drop, List.length_append] at this
  omega
theorem hunksS_iff (mode : Int) (b : List Int) : ∀ (m f : Nat) (en : Int) (acc s : List Hk) (e : Nat), b.length - f < m →
    (hunksS mode b m f en acc = .inl (s, e) ↔ ∃ ts, s = acc ++ ts ∧ hunksOk mode en ts ∧ (∃ r, b.drop f = hunksB ts ++ r) ∧ e = f + (hunksB ts).length ∧ ¬ At b e 64)
  | 0, f, en, acc, s, e, h => by omega
  | m + 1, f, en, acc, s, e, hm => by
    unfold hunksS
    by_cases h0 : At b f 64
    · rw [if_pos h0]
      constructor
      · intro hh
        split at hh
        · cases hh
        · rename_i h e1 hs
          obtain ⟨k1, ⟨r, k2⟩, rfl⟩ := (stepS_iff mode b f en h0 h e1).1 hs
          have hp := hunkB_pos h
          have hf := drop_len k2 hp
          obtain ⟨ts, rfl, g1, ⟨r1, g2⟩, rfl, g3⟩ := (hunksS_iff mode b m (f + (hunkB h).length) _ _ s e (by omega)).1 hh
          have d := drop_more k2
          refine ⟨h :: ts, by simp, ⟨k1, g1⟩, ⟨r1, ?_⟩, ?_, ?_⟩
          · rw [k2, ← d, g2]; simp [hunksB]
          · simp only [hunksB, List.map_cons, List.flatten_cons, List.length_append]; omega
          · exact g3
      · rintro ⟨ts, rfl, g1, ⟨r, g2⟩, rfl, g3⟩
        cases ts with
        | nil => exact absurd h0 g3
        | cons h ts =>
          have g2' : b.drop f = hunkB h ++ (hunksB ts ++ r) := by rw [g2]; simp [hunksB]
          have d := drop_more g2'
          have hp := hunkB_pos h
          have hf := drop_len g2' hp
          have hs := (stepS_iff mode b f en h0 h _).2 ⟨g1.1, ⟨_, g2'⟩, rfl⟩
          rw [hs]
          simp only
          refine (hunksS_iff mode b m _ _ _ _ _ (by omega)).2 ⟨ts, by simp, g1.2, ⟨r, d⟩, ?_, ?_⟩
          · simp only [hunksB, List.map_cons, List.flatten_cons, List.length_append]; omega
          · exact g3
    · rw [if_neg h0]
      constructor
      · intro hh
        cases hh
        exact ⟨[], by simp, trivial, ⟨_, rfl⟩, rfl, h0⟩
      · rintro ⟨ts, rfl, g1, ⟨r, g2⟩, rfl, g3⟩
        cases ts with
        | nil => simp [hunksB]
        | cons h ts => exact absurd (at_cons.2 ⟨_, by rw [g2]; rfl⟩) h0
def hd (mode : Int) : List Int := if mode = 0 then [116, 97, 116, 116, 105, 110, 103, 32, 49, 32, 98, 121, 116, 101, 115, 10] else [116, 97, 116, 116, 105, 110, 103, 32, 49, 32, 108, 105, 110, 101, 115, 10]
theorem hd_len (mode : Int) : (hd mode).length = 16 := by unfold hd; split <;> rfl
def firstS (b : List Int) : Option Int := if b.take 16 = hd 0 then some 0 else if b.take 16 = hd 1 then some 1 else none
def finS (mode : Int) (b : List Int) (s : List Hk) (f : Nat) : (Int × List Hk) ⊕ Nat :=
  if (b.drop f).take 2 = [46, 10] then (if f + 2 < b.length then .inr (f + 2) else .inl (mode, s)) else .inr f
def restS (mode : Int) (b : List Int) (r : (List Hk × Nat) ⊕ Nat) : (Int × List Hk) ⊕ Nat :=
  match r with
  | .inr p => .inr p
  | .inl (s, f) => finS mode b s f
def decS (b : List Int) : (Int × List Hk) ⊕ Nat :=
  match firstS b with
  | none => .inr 0
  | some mode => restS mode b (hunksS mode b (b.length + 1) 16 (-1) [])
def encS (mode : Int) (s : List Hk) : List Int := hd mode ++ (hunksB s ++ [46, 10])
theorem first_iff (b : List Int) (mode : Int) : firstS b = some mode ↔ (mode = 0 ∨ mode = 1) ∧ ∃ r, b = hd mode ++ r := by
  have key : ∀ m : Int, b.take 16 = hd m ↔ ∃ r, b = hd m ++ r := fun m => ⟨fun h => ⟨b.drop 16, by rw [← h, List.take_append_drop]⟩, by
    rintro ⟨r, rfl⟩
    rw [← hd_len m, List.take_left]⟩
  have ne : hd 0 ≠ hd 1 := by decide
  unfold firstS
  by_cases h0 : b.take 16 = hd 0
  · rw [if_pos h0]
    constructor
    · intro h; cases h; exact ⟨.inl rfl, (key 0).1 h0⟩
    · rintro ⟨rfl | rfl, h⟩
      · rfl
      · exact absurd (h0.symm.trans ((key 1).2 h)) ne
  · rw [if_neg h0]
    by_cases h1 : b.take 16 = hd 1
    · rw [if_pos h1]
      constructor
      · intro h; cases h; exact ⟨.inr rfl, (key 1).1 h1⟩
      · rintro ⟨rfl | rfl, h⟩
        · exact absurd ((key 0).2 h) h0
        · rfl
    · rw [if_neg h1]
      constructor
      · intro h; cases h
      · rintro ⟨rfl | rfl, h⟩
        · exact absurd ((key 0).2 h) h0
        · exact absurd ((key 1).2 h) h1
theorem not_at_dot {b : List Int} {f : Nat} {r : List Int} (h : b.drop f = [46, 10] ++ r) : ¬ At b f 64 := by
  intro h1
  obtain ⟨q, hq⟩ := at_cons.1 h1
  rw [h] at hq
  cases hq
/-- A script's bytes, whatever comes behind them. -/
theorem dec_enc (mode : Int) (s : List Hk) (more : List Int) (hm : mode = 0 ∨ mode = 1) (hs : hunksOk mode (-1) s) :
    decS (encS mode s ++ more) = if more = [] then .inl (mode, s) else .inr (encS mode s).length := by
  have hb : encS mode s ++ more = hd mode ++ (hunksB s ++ ([46, 10] ++ more)) := by unfold encS; simp
  unfold decS
  rw [(first_iff _ mode).2 ⟨hm, _, hb⟩]
  simp only
  generalize hB : encS mode s ++ more = b at *
  have d0 : b.drop 16 = hunksB s ++ ([46, 10] ++ more) := by rw [hb, ← hd_len mode, List.drop_left]
  have d1 := drop_more d0
  have hh := (hunksS_iff mode b (b.length + 1) 16 (-1) [] s (16 + (hunksB s).length) (by omega)).2 ⟨s, rfl, hs, ⟨_, d0⟩, rfl, not_at_dot d1⟩
  rw [hh]
  unfold restS finS
  simp only
  rw [d1, if_pos (show List.take 2 ([46, 10] ++ more) = [46, 10] from rfl)]
  have hl : b.length = 16 + (hunksB s).length + 2 + more.length := by rw [hb]; simp [hd_len]; omega
  have he : (encS mode s).length = 16 + (hunksB s).length + 2 := by unfold encS; simp [hd_len]; omega
  cases more with
  | nil => rw [if_pos rfl, if_neg (by rw [hl]; simp)]
  | cons x l =>
    rw [if_pos (show 16 + (hunksB s).length + 2 < b.length by rw [hl, List.length_cons]; omega), if_neg (show ¬ (x :: l = []) by simp), he]
theorem dec_some (b : List Int) (mode : Int) (s : List Hk) (h : decS b = .inl (mode, s)) : (mode = 0 ∨ mode = 1) ∧ hunksOk mode (-1) s ∧ b = encS mode s := by
  unfold decS at h
  split at h
  · cases h
  · rename_i m hf
    obtain ⟨hm, r0, hr0⟩ := (first_iff b m).1 hf
    unfold restS at h
    split at h
    · cases h
    · rename_i s1 f1 hh
      obtain ⟨ts, q, g1, ⟨r, g2⟩, rfl, g3⟩ := (hunksS_iff m b _ 16 (-1) [] s1 f1 (by omega)).1 hh
      rw [List.nil_append] at q
      subst q
      unfold finS at h
      split at h
      · rename_i ht
        split at h
        · cases h
        · rename_i hlt
          cases h
          refine ⟨hm, g1, ?_⟩
          have d1 := drop_more g2
          have e16 : b.take 16 = hd mode := by rw [hr0, ← hd_len mode, List.take_left]
          have e2 : b.drop (16 + (hunksB s).length) = [46, 10] := by
            rw [← ht, List.take_of_length_le]
            rw [List.length_drop]; omega
          rw [e2] at d1
          unfold encS
          rw [← e16, d1, ← g2, List.take_append_drop]
      · cases h
/-- With one byte less it is none. -/
theorem dec_less (mode : Int) (s : List Hk) (x : Int × List Hk) : decS ((encS mode s).take ((encS mode s).length - 1)) ≠ .inl x := by
  intro h
  obtain ⟨m, t⟩ := x
  obtain ⟨_, _, e⟩ := dec_some _ m t h
  have h1 : (encS mode s).take ((encS mode s).length - 1) = hd mode ++ (hunksB s ++ [46]) := by
    rw [← List.dropLast_eq_take]
    unfold encS
    rw [show hd mode ++ (hunksB s ++ [46, 10]) = (hd mode ++ (hunksB s ++ [46])) ++ [10] by simp, List.dropLast_concat]
  rw [h1] at e
  have e2 := congrArg List.getLast? e
  unfold encS at e2
  rw [show hd mode ++ (hunksB s ++ [46]) = (hd mode ++ hunksB s) ++ [46] by simp, show hd m ++ (hunksB t ++ [46, 10]) = (hd m ++ (hunksB t ++ [46])) ++ [10] by simp] at e2
  simp at e2
/-! Cut off anywhere. -/
def cutL : List Nat → Nat → Nat → Nat
  | [], off, _ => off
  | n :: ns, off, i => if off + n ≤ i then cutL ns (off + n) i else off
theorem cutL_le : ∀ (ns : List Nat) (off i : Nat), off ≤ i → cutL ns off i ≤ i
  | [], off, i, h => h
  | n :: ns, off, i, h => by
    unfold cutL
    split
    · exact cutL_le ns _ _ (by omega)
    · exact h
theorem cutL_ge : ∀ (ns : List Nat) (off i : Nat), off ≤ cutL ns off i
  | [], off, i => Nat.le_refl _
  | n :: ns, off, i => by
    unfold cutL
    split
    · exact Nat.le_trans (Nat.le_add_right _ _) (cutL_ge ns _ _)
    · exact Nat.le_refl _
theorem cutL_mono : ∀ (ns : List Nat) (off i j : Nat), i ≤ j → cutL ns off i ≤ cutL ns off j
  | [], off, i, j, h => Nat.le_refl _
  | n :: ns, off, i, j, h => by
    unfold cutL
    by_cases h1 : off + n ≤ i
    · rw [if_pos h1, if_pos (by omega)]
      exact cutL_mono ns _ _ _ h
    · rw [if_neg h1]
      split
      · exact Nat.le_trans (Nat.le_add_right _ _) (cutL_ge ns _ _)
      · exact Nat.le_refl _
theorem cutL_cons (n : Nat) (ns : List Nat) (off i : Nat) : cutL (n :: ns) off i = if off + n ≤ i then cutL ns (off + n) i else off := rfl
theorem cutL_none {ns : List Nat} {off i : Nat} (h : ¬ off ≤ i) : cutL ns off i = off := by
  cases ns with
  | nil => rfl
  | cons m ms => rw [cutL_cons, if_neg (by omega)]
theorem cutL_app : ∀ (ns ms : List Nat) (off i : Nat), cutL (ns ++ ms) off i = if off + ns.sum ≤ i then cutL ms (off + ns.sum) i else cutL ns off i
  | [], ms, off, i => by
    show cutL ms off i = if off ≤ i then cutL ms off i else off
    by_cases h : off ≤ i
    · rw [if_pos h]
    · rw [if_neg h, cutL_none h]
  | n :: ns, ms, off, i => by
    show cutL (n :: (ns ++ ms)) off i = _
    rw [cutL_cons, cutL_cons, List.sum_cons]
    by_cases h1 : off + n ≤ i
    · rw [if_pos h1, if_pos h1, cutL_app ns ms, Nat.add_assoc]
    · rw [if_neg h1, if_neg h1, if_neg (by omega)]
def lens (l : List (List Int)) : List Nat := l.map fun t => (tokB t).length
theorem lens_sum (l : List (List Int)) : (lens l).sum = (toksB l).length := by
  unfold lens toksB
  rw [List.length_flatten, List.map_map]
  rfl
theorem drop_take {b l r : List Int} {f i : Nat} (h : b.drop f = l ++ r) (hi : f + l.length ≤ i) : (b.take i).drop f = l ++ r.take (i - f - l.length) := by
  rw [List.drop_take, h, List.take_append, List.take_of_length_le (by omega)]
theorem of_drop_take {b l r : List Int} {f i : Nat} (h : (b.take i).drop f = l ++ r) : ∃ q, b.drop f = l ++ q := by
  have h1 : (b.take i).drop f <+: b.drop f := by rw [List.drop_take]; exact List.take_prefix ..
  rw [h] at h1
  obtain ⟨q, hq⟩ := (List.prefix_append l r).trans h1
  exact ⟨q, hq.symm⟩
theorem tokS_cut (mode : Int) (b : List Int) (f i : Nat) (t r : List Int) (ht : isTok mode t = true ∧ t.length ≤ 1048576) (h : b.drop f = tokB t ++ r) :
    tokS mode (b.take i) f = if f + (tokB t).length ≤ i then some (t, f + (tokB t).length) else none := by
  by_cases hi : f + (tokB t).length ≤ i
  · rw [if_pos hi]
    exact (tokS_iff mode _ f t _).2 ⟨ht.1, ht.2, ⟨_, drop_take h hi⟩, rfl⟩
  · rw [if_neg hi]
    cases hs : tokS mode (b.take i) f with
    | none => rfl
    | some p =>
      obtain ⟨t', e⟩ := p
      have hle := tokS_le hs
      obtain ⟨g1, g2, ⟨r1, g3⟩, rfl⟩ := (tokS_iff mode _ f t' e).1 hs
      obtain ⟨q, hq⟩ := of_drop_take g3
      have s1 := (tokS_iff mode b f t' _).2 ⟨g1, g2, ⟨q, hq⟩, rfl⟩
      have s2 := (tokS_iff mode b f t _).2 ⟨ht.1, ht.2, ⟨r, h⟩, rfl⟩
      rw [s1] at s2
      cases s2
      have := hle.2
      rw [List.length_take] at this
      omega
theorem lineS_cut (b : List Int) (f i : Nat) (x y z : Nat) (r : List Int) (hx : x ≤ 1048576 ∧ y ≤ 1048576 ∧ z ≤ 1048576) (h : b.drop f = lineB x y z ++ r) (h0 : At (b.take i) f 64) :
    lineS (b.take i) f = if f + (lineB x y z).length ≤ i then some ((x : Int), (y : Int), (z : Int), f + (lineB x y z).length) else none := by
  by_cases hi : f + (lineB x y z).length ≤ i
  · rw [if_pos hi]
    exact (lineS_iff _ f h0 _ _ _ _).2 ⟨x, y, z, rfl, rfl, rfl, hx.1, hx.2.1, hx.2.2, ⟨_, drop_take h hi⟩, rfl⟩
  · rw [if_neg hi]
    cases hs : lineS (b.take i) f with
    | none => rfl
    | some p =>
      obtain ⟨X, Y, Z, e⟩ := p
      obtain ⟨x', y', z', rfl, rfl, rfl, k1, k2, k3, ⟨r1, g3⟩, rfl⟩ := (lineS_iff _ f h0 _ _ _ _).1 hs
      obtain ⟨q, hq⟩ := of_drop_take g3
      have hb := at_line h
      have s1 := (lineS_iff b f hb _ _ _ _).2 ⟨x', y', z', rfl, rfl, rfl, k1, k2, k3, ⟨q, hq⟩, rfl⟩
      have s2 := (lineS_iff b f hb _ _ _ _).2 ⟨x, y, z, rfl, rfl, rfl, hx.1, hx.2.1, hx.2.2, ⟨r, h⟩, rfl⟩
      rw [s1] at s2
      have e2 : f + (lineB x' y' z').length = f + (lineB x y z).length := by
        have := congrArg (Option.map fun p : Int × Int × Int × Nat => p.2.2.2) s2
        simpa using this
      have e3 : 0 < (lineB x' y' z').length := by unfold lineB; simp
      have := drop_len g3 e3
      rw [List.length_take] at this
      omega
theorem toksS_cut (mode : Int) (b : List Int) (i : Nat) : ∀ (ts : List (List Int)) (f : Nat) (acc : List (List Int)) (r : List Int), (∀ t ∈ ts, isTok mode t = true ∧ t.length ≤ 1048576) → b.drop f = toksB ts ++ r →
    toksS mode (b.take i) ts.length f acc = if ts = [] ∨ f + (toksB ts).length ≤ i then .inl (acc ++ ts, f + (toksB ts).length) else .inr (cutL (lens ts) f i)
  | [], f, acc, r, _, h => by
    rw [if_pos (.inl rfl)]
    simp [toksS, toksB]
  | t :: ts, f, acc, r, ht, h => by
    have h' : b.drop f = tokB t ++ (toksB ts ++ r) := by rw [h]; simp [toksB]
    have d := drop_more h'
    have e := tokS_cut mode b f i t _ (ht t (by simp)) h'
    have el : (toksB (t :: ts)).length = (tokB t).length + (toksB ts).length := by simp [toksB]
    rw [List.length_cons, toksS, e, el]
    by_cases hi : f + (tokB t).length ≤ i
    · rw [if_pos hi]
      simp only
      rw [toksS_cut mode b i ts _ _ r (fun x hx => ht x (by simp [hx])) d]
      by_cases h2 : f + (tokB t).length + (toksB ts).length ≤ i
      · rw [if_pos (.inr h2), if_pos (.inr (by omega))]
        simp [Nat.add_assoc]
      · have hne : ts ≠ [] := by rintro rfl; rw [show (toksB ([] : List (List Int))).length = 0 from rfl] at h2; omega
        rw [if_neg (by simp [hne]; omega), if_neg (by simp; omega)]
        show _ = Sum.inr (cutL ((tokB t).length :: lens ts) f i)
        conv => rhs; unfold cutL
        rw [if_pos hi]
    · rw [if_neg hi, if_neg (by simp; omega)]
      show _ = Sum.inr (cutL ((tokB t).length :: lens ts) f i)
      unfold cutL
      rw [if_neg hi]
def hlens (h : Hk) : List Nat := (lineB h.1.toNat h.2.1.length h.2.2.length).length :: (lens h.2.1 ++ lens h.2.2)
theorem hlens_sum (h : Hk) : (hlens h).sum = (hunkB h).length := by
  unfold hlens hunkB
  simp [lens_sum]
theorem stepS_cut (mode : Int) (b : List Int) (f i : Nat) (en : Int) (h : Hk) (r : List Int) (hk : hOk mode en h) (hb : b.drop f = hunkB h ++ r) (h0 : At (b.take i) f 64) :
    stepS mode (b.take i) f en = if f + (hunkB h).length ≤ i then .inl (h, f + (hunkB h).length) else .inr (cutL (hlens h) f i) := by
  obtain ⟨a1, a2, a3, a4, ⟨a5, a6⟩, a7, a8⟩ := hk
  obtain ⟨X, o, n⟩ := h
  obtain ⟨x, rfl⟩ : ∃ x : Nat, X = (x : Int) := ⟨X.toNat, by simp only at a2; omega⟩
  simp only at a1 a2 a3 a4 a5 a6 a7 a8
  have el : (hunkB ((x : Int), o, n)).length = (lineB x o.length n.length).length + ((toksB o).length + (toksB n).length) := by
    unfold hunkB; simp
  unfold hunkB at hb
  simp only [Int.toNat_natCast, List.append_assoc] at hb
  have d1 := drop_more hb
  have d2 := drop_more d1
  unfold stepS
  rw [lineS_cut b f i x o.length n.length _ ⟨by omega, a5, a7⟩ hb h0, el]
  have hh : hlens ((x : Int), o, n) = [(lineB x o.length n.length).length] ++ (lens o ++ lens n) := rfl
  rw [hh]
  generalize hL : (lineB x o.length n.length).length = L at *
  by_cases h1 : f + L ≤ i
  · rw [if_pos h1]
    simp only [Int.toNat_natCast]
    rw [if_neg (by omega), toksS_cut mode b i o _ _ _ a6 d1]
    by_cases h2 : f + L + (toksB o).length ≤ i
    · rw [if_pos (.inr h2)]
      simp only [List.nil_append]
      rw [toksS_cut mode b i n _ _ _ a8 d2]
      by_cases h3 : f + L + (toksB o).length + (toksB n).length ≤ i
      · rw [if_pos (.inr h3), if_pos (by omega)]
        simp [Nat.add_assoc]
      · have hne : n ≠ [] := by rintro rfl; rw [show (toksB ([] : List (List Int))).length = 0 from rfl] at h3; omega
        rw [if_neg (by simp [hne]; omega), if_neg (by omega)]
        simp only
        rw [cutL_app, if_pos (by simpa using h1), cutL_app, lens_sum, if_pos (by simpa using h2)]
        simp
    · have hne : o ≠ [] := by rintro rfl; rw [show (toksB ([] : List (List Int))).length = 0 from rfl] at h2; omega
      rw [if_neg (by simp [hne]; omega), if_neg (by omega)]
      simp only
      rw [cutL_app, if_pos (by simpa using h1), cutL_app, lens_sum, if_neg (by simpa using h2)]
      simp
  · rw [if_neg h1, if_neg (by omega)]
    simp only
    rw [cutL_app, if_neg (by simpa using h1)]
    unfold cutL
    rw [if_neg (by omega)]
def allLens (s : List Hk) : List Nat := (s.map hlens).flatten
theorem hunks_cut (mode : Int) (b : List Int) (i : Nat) (hi : i < b.length) : ∀ (m f : Nat) (en : Int) (acc ts : List Hk), i - f < m → f ≤ i → hunksOk mode en ts → b.drop f = hunksB ts ++ [46, 10] →
    restS mode (b.take i) (hunksS mode (b.take i) m f en acc) = .inr (cutL (allLens ts) f i)
  | 0, f, en, acc, ts, h, _, _, _ => by omega
  | m + 1, f, en, acc, ts, hm, hf, ho, hb => by
    have hlt : (b.take i).length = i := by rw [List.length_take]; omega
    have stop : ∀ (c : Nat), f = i → restS mode (b.take i) (hunksS mode (b.take i) (m + 1) f en acc) = .inr f := by
      intro c e
      unfold hunksS
      rw [if_neg (fun h => by have := h.1; omega)]
      unfold restS finS
      simp only
      rw [List.drop_eq_nil_of_le (by omega), if_neg (by simp)]
    cases ts with
    | nil =>
      show _ = Sum.inr f
      unfold hunksS
      have hb' : b.drop f = [46, 10] := by rw [hb]; rfl
      have hbl := congrArg List.length hb'
      rw [List.length_drop, List.length_cons, List.length_singleton] at hbl
      have n0 : ¬ At (b.take i) f 64 := by
        intro h
        obtain ⟨q, hq⟩ := at_cons.1 h
        obtain ⟨q', hq'⟩ := of_drop_take (l := [64]) (r := q) hq
        rw [hb'] at hq'
        cases hq'
      rw [if_neg n0]
      unfold restS finS
      simp only
      rw [if_neg]
      intro h
      have := congrArg List.length h
      rw [List.length_take, List.length_drop, hlt, List.length_cons, List.length_singleton] at this
      omega
    | cons h ts =>
      have hb' : b.drop f = hunkB h ++ (hunksB ts ++ [46, 10]) := by rw [hb]; simp [hunksB]
      have d := drop_more hb'
      have hp := hunkB_pos h
      have hle := drop_len hb' hp
      have eA : allLens (h :: ts) = hlens h ++ allLens ts := by simp [allLens]
      rw [eA, cutL_app, hlens_sum]
      by_cases e : f = i
      · rw [stop 0 e, if_neg (by omega)]
        unfold hlens cutL
        have : 0 < (lineB h.1.toNat h.2.1.length h.2.2.length).length := by unfold lineB; simp
        rw [if_neg (by omega)]
      · have h0 : At (b.take i) f 64 := by
          have hx : b.drop f = 64 :: _ := hb'
          have hq := drop_take (l := [64]) (i := i) hx (by simp; omega)
          exact at_cons.2 ⟨_, hq⟩
        unfold hunksS
        rw [if_pos h0, stepS_cut mode b f i en h _ ho.1 hb' h0]
        by_cases h1 : f + (hunkB h).length ≤ i
        · rw [if_pos h1, if_pos h1]
          simp only
          exact hunks_cut mode b i hi m _ _ _ ts (by omega) h1 ho.2 d
        · rw [if_neg h1, if_neg h1]
          rfl
def cutP (s : List Hk) (i : Nat) : Nat := cutL (16 :: allLens s) 0 i
theorem dec_cut (mode : Int) (s : List Hk) (i : Nat) (hm : mode = 0 ∨ mode = 1) (hs : hunksOk mode (-1) s) (hi : i < (encS mode s).length) :
    decS ((encS mode s).take i) = .inr (cutP s i) := by
  generalize hb : encS mode s = b at *
  unfold encS at hb
  have hlt : (b.take i).length = i := by rw [List.length_take]; omega
  unfold cutP cutL decS
  by_cases h : 0 + 16 ≤ i
  · rw [if_pos h]
    have e : firstS (b.take i) = some mode := by
      refine (first_iff _ mode).2 ⟨hm, (b.take i).drop 16, ?_⟩
      have : (b.take i).take 16 = hd mode := by
        rw [List.take_take, Nat.min_eq_left (by omega), ← hb, ← hd_len mode, List.take_left]
      rw [← this, List.take_append_drop]
    rw [e]
    simp only
    have d0 : b.drop 16 = hunksB s ++ [46, 10] := by rw [← hb, ← hd_len mode, List.drop_left]
    exact hunks_cut mode b i hi ((b.take i).length + 1) 16 (-1) [] s (by omega) (by omega) hs d0
  · rw [if_neg h]
    cases e : firstS (b.take i) with
    | none => rfl
    | some m =>
      obtain ⟨_, r, hr⟩ := (first_iff _ m).1 e
      have := congrArg List.length hr
      rw [hlt, List.length_append, hd_len] at this
      omega
end Go.Proofs.YtakjaafenhdpjaaGreat.ETopAnyBytes
