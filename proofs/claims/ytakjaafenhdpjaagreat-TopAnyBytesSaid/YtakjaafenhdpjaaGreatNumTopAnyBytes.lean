import Derived.Test.YtakjaafenhdpjaaGreatResKit
import Derived.Test.YtakjaafenhdpjaaGreatResTopAnyBytes
namespace Go.Proofs.YtakjaafenhdpjaaGreat.ETopAnyBytes
open Go Go.Proofs.YtakjaafenhdpjaaGreat.AE
set_option linter.unusedVariables false
set_option linter.unusedSimpArgs false
/-! A number that stands at a place: the reader's and the reference's. -/
def scan : List Int → Int → Nat → Option (Int × Nat)
  | [], n, c => if c = 0 then none else some (n, c)
  | x :: l, n, c => if 48 ≤ x ∧ x ≤ 57 then (if 10 * n + (x - 48) > 1048576 ∨ (0 < c ∧ n = 0) then none else scan l (10 * n + (x - 48)) (c + 1)) else if c = 0 then none else some (n, c)
theorem getD_at (b : List Int) {k : Nat} (h : k < b.length) : b.getD ((k : Nat) : Int).toNat 0 = b[k] := by
  simp [List.getD, List.getElem?_eq_getElem h]
theorem wu8 {x : Int} (h1 : 0 ≤ x) (h2 : x ≤ 255) : IntKind.wrap .u8 x = x := by
  simp only [IntKind.wrap, IntKind.signed, IntKind.bits, Bool.false_and, Bool.false_eq_true, if_false]
  omega
theorem num_loop (b : List Int) (f : Nat) (mode : Int) (hb : ∀ x ∈ b, 0 ≤ x ∧ x ≤ 255) (hlen : b.length ≤ 1099511627776) : ∀ (m : Nat) (c : Nat) (n : Int), b.length - (f + c) < m → f + c ≤ b.length → 0 ≤ n → n ≤ 1048576 → (c = 0 → n = 0) → (0 < c → (n = 0 ↔ b.getD f 0 = 48)) →
    ∃ s, iter F63_0 m (n, (f : Int), b, ((f + c : Nat) : Int), mode) = some s ∧
      match scan (b.drop (f + c)) n c with
      | some (v, c') => s = .inl (v, (f : Int), b, ((f + c' : Nat) : Int), mode) ∧ 0 < c' ∧ f + c' ≤ b.length
      | none => (∃ at' : Nat, f ≤ at' ∧ at' ≤ b.length ∧ s = .inr (0, false, b, (at' : Int), mode)) ∨ (c = 0 ∧ s = .inl (n, (f : Int), b, (f : Int), mode))
  | 0, c, n, h, _, _, _, _, _ => by omega
  | m + 1, c, n, hm, hc, hn0, hn1, hz, hf => by
    show ∃ s, F63_0 (iter F63_0 m) _ = some s ∧ _
    unfold F63_0
    simp only
    by_cases hlt : f + c < b.length
    · have h1 : decide (((f + c : Nat) : Int) < (b.length : Int)) = true := decide_eq_true (by omega)
      have h2 : (0 ≤ ((f + c : Nat) : Int) ∧ ((f + c : Nat) : Int) < (b.length : Int)) := ⟨by omega, by omega⟩
      have hx := getD_at b hlt
      have hd : b.drop (f + c) = b[f + c] :: b.drop (f + c + 1) := List.drop_eq_getElem_cons hlt
      have hbx := hb _ (List.getElem_mem hlt)
      have hfx : c = 0 → b.getD f 0 = b[f + c] := by
        rintro rfl
        simp [List.getD, List.getElem?_eq_getElem (show f < b.length by omega)]
      rw [hd]
      simp only [h1, hx, if_pos h2, beq_self_eq_true, cond_true]
      generalize b[f + c] = x at *
      by_cases d1 : 48 ≤ x
      · by_cases d2 : x ≤ 57
        · have e1 : IntKind.wrap .i64 (10 * n) = 10 * n := w64 (by omega) (by omega)
          have e2 : IntKind.wrap .u8 (x - 48) = x - 48 := wu8 (by omega) (by omega)
          have e3 : IntKind.wrap .i64 (x - 48) = x - 48 := w64 (by omega) (by omega)
          have e4 : IntKind.wrap .i64 (10 * n + (x - 48)) = 10 * n + (x - 48) := w64 (by omega) (by omega)
          have e5 : IntKind.wrap .i64 (((f + c : Nat) : Int) + 1) = ((f + (c + 1) : Nat) : Int) := by rw [w64 (by omega) (by omega)]; omega
          have e6 : IntKind.wrap .i64 (((f + (c + 1) : Nat) : Int) - (f : Int)) = ((c + 1 : Nat) : Int) := by rw [w64 (by omega) (by omega)]; omega
          have h3 : (0 ≤ (f : Int) ∧ (f : Int) < (b.length : Int)) := ⟨by omega, by omega⟩
          simp only [ge_iff_le, decide_eq_true d1, decide_eq_true d2, beq_self_eq_true, cond_true, e1, e2, e3, e4, e5, e6, if_pos h3, scan, if_pos (And.intro d1 d2)]
          by_cases big : 10 * n + (x - 48) > 1048576
          · simp only [decide_eq_true big, show (true == false) = false from rfl, cond_false, if_pos (Or.inl big : _ ∨ (0 < c ∧ n = 0))]
            exact ⟨_, rfl, .inl ⟨f + (c + 1), by omega, by omega, rfl⟩⟩
          · simp only [decide_eq_false big, beq_self_eq_true, cond_true]
            by_cases c0 : c = 0
            · subst c0
              obtain rfl := hz rfl
              have g1 : decide (((0 + 1 : Nat) : Int) > 1) = false := decide_eq_false (by omega)
              simp only [g1, show (false == true) = false from rfl, cond_false, if_neg (show ¬ (10 * 0 + (x - 48) > 1048576 ∨ (0 < 0 ∧ True)) by omega)]
              obtain ⟨s, k1, k2⟩ := num_loop b f mode hb hlen m (0 + 1) (10 * 0 + (x - 48)) (by omega) (by omega) (by omega) (by omega) (by omega) (fun _ => by rw [hfx rfl]; omega)
              refine ⟨s, k1, ?_⟩
              rw [show f + (0 + 1) = f + 0 + 1 from rfl] at k2
              split at k2
              · exact k2
              · exact .inl (k2.resolve_right fun h => by omega)
            · have g1 : decide (((c + 1 : Nat) : Int) > 1) = true := decide_eq_true (by omega)
              have hg : b.getD (Int.toNat (f : Int)) 0 = b.getD f 0 := rfl
              simp only [g1, beq_self_eq_true, cond_true, hg]
              by_cases z : n = 0
              · have g2 : decide (b.getD f 0 = 48) = true := decide_eq_true ((hf (by omega)).1 z)
                simp only [g2, cond_true, if_pos (show 10 * n + (x - 48) > 1048576 ∨ (0 < c ∧ n = 0) from .inr ⟨by omega, z⟩)]
                exact ⟨_, rfl, .inl ⟨f + (c + 1), by omega, by omega, rfl⟩⟩
              · have g2 : decide (b.getD f 0 = 48) = false := decide_eq_false fun h => z ((hf (by omega)).2 h)
                simp only [g2, cond_false, if_neg (show ¬ (10 * n + (x - 48) > 1048576 ∨ (0 < c ∧ n = 0)) by omega)]
                obtain ⟨s, k1, k2⟩ := num_loop b f mode hb hlen m (c + 1) (10 * n + (x - 48)) (by omega) (by omega) (by omega) (by omega) (by omega) (fun _ => ⟨fun h => by omega, fun h => absurd ((hf (by omega)).2 h) z⟩)
                refine ⟨s, k1, ?_⟩
                rw [show f + (c + 1) = f + c + 1 from rfl] at k2
                split at k2
                · exact k2
                · exact .inl (k2.resolve_right fun h => by omega)
        · simp only [ge_iff_le, decide_eq_true d1, decide_eq_false d2, beq_self_eq_true, cond_true, cond_false, scan, if_neg (show ¬ (48 ≤ x ∧ x ≤ 57) by omega)]
          by_cases c0 : c = 0
          · subst c0; exact ⟨_, rfl, .inr ⟨rfl, rfl⟩⟩
          · rw [if_neg c0]; exact ⟨_, rfl, rfl, by omega, by omega⟩
      · simp only [ge_iff_le, decide_eq_false d1, show (false == true) = false from rfl, cond_false, scan, if_neg (show ¬ (48 ≤ x ∧ x ≤ 57) by omega)]
        by_cases c0 : c = 0
        · subst c0; exact ⟨_, rfl, .inr ⟨rfl, rfl⟩⟩
        · rw [if_neg c0]; exact ⟨_, rfl, rfl, by omega, by omega⟩
    · have h1 : decide (((f + c : Nat) : Int) < (b.length : Int)) = false := decide_eq_false (by omega)
      have hd : b.drop (f + c) = [] := List.drop_eq_nil_of_le (by omega)
      rw [hd]
      simp only [h1, show (false == true) = false from rfl, cond_false, scan]
      by_cases c0 : c = 0
      · subst c0; exact ⟨_, rfl, .inr ⟨rfl, rfl⟩⟩
      · rw [if_neg c0]; exact ⟨_, rfl, rfl, by omega, by omega⟩
/-- The reader's number. -/
theorem number_is (k : Nat) (b : List Int) (f : Nat) (mode : Int) (hb : ∀ x ∈ b, 0 ≤ x ∧ x ≤ 255) (hlen : b.length ≤ 1099511627776) (hk : b.length < k) (hf : f ≤ b.length) :
    ∃ v ok, ∃ at' : Nat, R63 (k + 1) (b, ((f : Int), mode)) = some (v, ok, b, ((at' : Int), mode)) ∧ f ≤ at' ∧ at' ≤ b.length ∧
      match scan (b.drop f) 0 0 with
      | some (x, c) => v = x ∧ ok = true ∧ at' = f + c
      | none => ok = false := by
  rw [u63]
  obtain ⟨s, k1, k2⟩ := num_loop b f mode hb hlen k 0 0 (by omega) (by omega) (by omega) (by omega) (fun _ => rfl) (by omega)
  rw [Nat.add_zero] at k1 k2
  have e : J63_0 k k (0, (f : Int), b, (f : Int), mode) = some s := k1
  unfold r63
  simp only [e, Option.bind_some]
  split at k2
  · obtain ⟨rfl, q1, q2⟩ := k2
    refine ⟨_, _, _, rfl, by omega, q2, rfl, decide_eq_true ?_, rfl⟩
    show (f : Int) < ((f + _ : Nat) : Int)
    omega
  · rcases k2 with ⟨a, q1, q2, rfl⟩ | ⟨_, rfl⟩
    · exact ⟨_, _, a, rfl, q1, q2, rfl⟩
    · refine ⟨_, _, f, rfl, Nat.le_refl _, hf, decide_eq_false ?_⟩
      show ¬ (f : Int) < (f : Int)
      omega
/-- What the reference's loop ends with, where the number is none. -/
def RefBad (b : List Int) (f : Nat) (s : (List Int × Int × Int × Int × Int) ⊕ (Int × Int)) : Prop := s = .inr (0, -1) ∨ ∃ v i : Int, s = .inl (b, (f : Int), 1048576, v, i) ∧ (i = (f : Int) ∨ 1048576 < v)
theorem ref_loop (b : List Int) (f : Nat) (hb : ∀ x ∈ b, 0 ≤ x ∧ x ≤ 255) (hlen : b.length ≤ 1099511627776) : ∀ (m : Nat) (c : Nat) (n : Int), b.length - (f + c) < m → f + c ≤ b.length → 0 ≤ n → n ≤ 10485769 →
    ∃ s, iter F34_0 m (b, (f : Int), 1048576, n, ((f + c : Nat) : Int)) = some s ∧
      (n ≤ 1048576 → match scan (b.drop (f + c)) n c with
        | some (v, c') => s = .inl (b, (f : Int), 1048576, v, ((f + c' : Nat) : Int)) ∧ 0 < c' ∧ f + c' ≤ b.length ∧ v ≤ 1048576
        | none => RefBad b f s) ∧ (1048576 < n → RefBad b f s)
  | 0, c, n, h, _, _, _ => by omega
  | m + 1, c, n, hm, hc, hn0, hn1 => by
    show ∃ s, F34_0 (iter F34_0 m) _ = some s ∧ _
    unfold F34_0
    simp only
    have stop : ∀ (l : List Int), scan l n c = (if c = 0 then none else some (n, c)) → ∃ s, some (Sum.inl (b, (f : Int), (1048576 : Int), n, ((f + c : Nat) : Int)) : (List Int × Int × Int × Int × Int) ⊕ (Int × Int)) = some s ∧
      (n ≤ 1048576 → match scan l n c with
        | some (v, c') => s = .inl (b, (f : Int), 1048576, v, ((f + c' : Nat) : Int)) ∧ 0 < c' ∧ f + c' ≤ b.length ∧ v ≤ 1048576
        | none => RefBad b f s) ∧ (1048576 < n → RefBad b f s) := by
      intro l hl
      refine ⟨_, rfl, fun hn => ?_, fun hn => .inr ⟨_, _, rfl, .inr hn⟩⟩
      rw [hl]
      by_cases c0 : c = 0
      · subst c0; rw [if_pos rfl]; exact .inr ⟨_, _, rfl, .inl rfl⟩
      · rw [if_neg c0]; exact ⟨rfl, by omega, hc, hn⟩
    by_cases hlt : f + c < b.length
    · have h1 : decide (((f + c : Nat) : Int) < (b.length : Int)) = true := decide_eq_true (by omega)
      have h2 : (0 ≤ ((f + c : Nat) : Int) ∧ ((f + c : Nat) : Int) < (b.length : Int)) := ⟨by omega, by omega⟩
      have hx := getD_at b hlt
      have hd : b.drop (f + c) = b[f + c] :: b.drop (f + c + 1) := List.drop_eq_getElem_cons hlt
      have hbx := hb _ (List.getElem_mem hlt)
      rw [hd]
      simp only [h1, hx, if_pos h2, beq_self_eq_true, cond_true]
      generalize b[f + c] = x at *
      by_cases d1 : 48 ≤ x
      · by_cases d2 : x ≤ 57
        · have e1 : IntKind.wrap .i64 (n * 10) = n * 10 := w64 (by omega) (by omega)
          have e2 : IntKind.wrap .u8 (x - 48) = x - 48 := wu8 (by omega) (by omega)
          have e3 : IntKind.wrap .i64 (x - 48) = x - 48 := w64 (by omega) (by omega)
          have e4 : IntKind.wrap .i64 (n * 10 + (x - 48)) = n * 10 + (x - 48) := w64 (by omega) (by omega)
          have e5 : IntKind.wrap .i64 (((f + c : Nat) : Int) + 1) = ((f + (c + 1) : Nat) : Int) := by rw [w64 (by omega) (by omega)]; omega
          simp only [ge_iff_le, decide_eq_true d1, decide_eq_true d2, beq_self_eq_true, cond_true, e1, e2, e3, e4, e5]
          have bad : ∀ s, s = Sum.inr ((0 : Int), (-1 : Int)) → scan (x :: b.drop (f + c + 1)) n c = none ∨ 1048576 < n → ∃ s', some s = some s' ∧
            (n ≤ 1048576 → match scan (x :: b.drop (f + c + 1)) n c with
              | some (v, c') => s' = .inl (b, (f : Int), 1048576, v, ((f + c' : Nat) : Int)) ∧ 0 < c' ∧ f + c' ≤ b.length ∧ v ≤ 1048576
              | none => RefBad b f s') ∧ (1048576 < n → RefBad b f s') := by
            rintro s rfl hs
            refine ⟨_, rfl, fun hn => ?_, fun _ => .inl rfl⟩
            rw [hs.resolve_right (by omega)]
            exact .inl rfl
          have go : n ≤ 1048576 → ¬ (0 < c ∧ n = 0) → ∃ s, iter F34_0 m (b, (f : Int), 1048576, n * 10 + (x - 48), ((f + (c + 1) : Nat) : Int)) = some s ∧
            (n ≤ 1048576 → match scan (x :: b.drop (f + c + 1)) n c with
              | some (v, c') => s = .inl (b, (f : Int), 1048576, v, ((f + c' : Nat) : Int)) ∧ 0 < c' ∧ f + c' ≤ b.length ∧ v ≤ 1048576
              | none => RefBad b f s) ∧ (1048576 < n → RefBad b f s) := by
            intro hn hz
            obtain ⟨s, k1, k2, k3⟩ := ref_loop b f hb hlen m (c + 1) (n * 10 + (x - 48)) (by omega) (by omega) (by omega) (by omega)
            refine ⟨s, k1, fun _ => ?_, fun h => by omega⟩
            by_cases big : 10 * n + (x - 48) > 1048576
            · simp only [scan, if_pos (And.intro d1 d2), if_pos (Or.inl big : _ ∨ (0 < c ∧ n = 0))]
              exact k3 (by omega)
            · simp only [scan, if_pos (And.intro d1 d2), if_neg (show ¬ (10 * n + (x - 48) > 1048576 ∨ (0 < c ∧ n = 0)) from fun h => h.elim big hz)]
              have := k2 (by omega)
              rw [show f + (c + 1) = f + c + 1 from rfl, show n * 10 + (x - 48) = 10 * n + (x - 48) by omega] at this
              exact this
          by_cases c0 : c = 0
          · have g1 : decide (((f + c : Nat) : Int) > (f : Int)) = false := decide_eq_false (by omega)
            simp only [g1, show (false == true) = false from rfl, cond_false]
            by_cases nb : n > 1048576
            · simp only [decide_eq_true nb, cond_true]
              exact bad _ rfl (.inr nb)
            · simp only [decide_eq_false nb, cond_false]
              exact go (by omega) (by omega)
          · have g1 : decide (((f + c : Nat) : Int) > (f : Int)) = true := decide_eq_true (by omega)
            simp only [g1, beq_self_eq_true, cond_true]
            by_cases z : n = 0
            · have g2 : decide (n = 0) = true := decide_eq_true z
              simp only [g2, show (true == false) = false from rfl, cond_false]
              refine bad _ rfl (.inl ?_)
              simp only [scan, if_pos (And.intro d1 d2), if_pos (show 10 * n + (x - 48) > 1048576 ∨ (0 < c ∧ n = 0) from .inr ⟨by omega, z⟩)]
            · have g2 : decide (n = 0) = false := decide_eq_false z
              simp only [g2, beq_self_eq_true, cond_true]
              by_cases nb : n > 1048576
              · simp only [decide_eq_true nb, cond_true]
                exact bad _ rfl (.inr nb)
              · simp only [decide_eq_false nb, cond_false]
                exact go (by omega) (by omega)
        · simp only [ge_iff_le, decide_eq_true d1, decide_eq_false d2, beq_self_eq_true, cond_true, cond_false]
          exact stop _ (by simp only [scan, if_neg (show ¬ (48 ≤ x ∧ x ≤ 57) by omega)])
      · simp only [ge_iff_le, decide_eq_false d1, show (false == true) = false from rfl, cond_false]
        exact stop _ (by simp only [scan, if_neg (show ¬ (48 ≤ x ∧ x ≤ 57) by omega)])
    · have h1 : decide (((f + c : Nat) : Int) < (b.length : Int)) = false := decide_eq_false (by omega)
      have hd : b.drop (f + c) = [] := List.drop_eq_nil_of_le (by omega)
      rw [hd]
      simp only [h1, show (false == true) = false from rfl, cond_false]
      exact stop _ rfl
/-- The reference's number. -/
theorem Number_is (k : Nat) (b : List Int) (f : Nat) (hb : ∀ x ∈ b, 0 ≤ x ∧ x ≤ 255) (hlen : b.length ≤ 1099511627776) (hk : b.length < k) (hf : f ≤ b.length) :
    R34 (k + 1) b (f : Int) 1048576 = some (match scan (b.drop f) 0 0 with
      | some (x, c) => (x, ((f + c : Nat) : Int))
      | none => (0, -1)) := by
  rw [u34]
  obtain ⟨s, k1, k2, _⟩ := ref_loop b f hb hlen k 0 0 (by omega) (by omega) (by omega) (by omega)
  have k2 := k2 (by omega)
  rw [Nat.add_zero] at k1 k2
  have e : J34_0 k k (b, (f : Int), 1048576, 0, (f : Int)) = some s := k1
  unfold r34
  simp only [e, Option.bind_some]
  split at k2
  · rename_i v c hs
    obtain ⟨rfl, q1, q2, q3⟩ := k2
    have g1 : decide (((f + c : Nat) : Int) = (f : Int)) = false := decide_eq_false (by omega)
    have g2 : decide (v > 1048576) = false := decide_eq_false (by omega)
    simp only [onSum, g1, g2, beq_self_eq_true, cond_true, cond_false]
  · rcases k2 with rfl | ⟨v, i, rfl, h⟩
    · rfl
    · by_cases hi : i = (f : Int)
      · simp only [onSum, decide_eq_true hi, show (true == false) = false from rfl, cond_false]
      · have hv : v > 1048576 := h.resolve_left hi
        simp only [onSum, decide_eq_false hi, decide_eq_true hv, beq_self_eq_true, cond_true]
theorem back_u8 : ∀ (x : List Int), (∀ a ∈ x, 0 ≤ a ∧ a ≤ 255) → (x.map fun n => UInt8.ofNat n.toNat).map (fun b => (b.toNat : Int)) = x
  | [], _ => rfl
  | a :: x, h => by
    have h1 := h a (List.mem_cons_self ..)
    rw [List.map_cons, List.map_cons, back_u8 x fun y hy => h y (List.mem_cons_of_mem _ hy)]
    congr 1
    simp
    omega
theorem strEq_bytes {x y : List Int} (hx : ∀ a ∈ x, 0 ≤ a ∧ a ≤ 255) (hy : ∀ a ∈ y, 0 ≤ a ∧ a ≤ 255) : strEq (bytesStr x) (bytesStr y) = decide (x = y) := by
  unfold strEq bytesStr
  rw [Bool.eq_iff_iff]
  simp only [beq_iff_eq, decide_eq_true_eq]
  constructor
  · intro h
    have := congrArg (List.map fun b : UInt8 => (b.toNat : Int)) h
    rwa [back_u8 x hx, back_u8 y hy] at this
  · rintro rfl; rfl
theorem strBytes_u8 (s : ByteArray) : ∀ a ∈ strBytes s, 0 ≤ a ∧ a ≤ 255 := by
  intro a ha
  obtain ⟨c, _, rfl⟩ := List.mem_map.1 ha
  have := c.toNat_lt
  omega
theorem strBytes_len (s : ByteArray) : (strBytes s).length = s.size := List.length_map ..
/-- The reader's text. -/
theorem text_is (k : Nat) (s : ByteArray) (hs : s.size ≤ 1099511627776) (b : List Int) (f : Nat) (mode : Int) (hb : ∀ x ∈ b, 0 ≤ x ∧ x ≤ 255) (hlen : b.length ≤ 1099511627776) (hf : f ≤ b.length) :
    R28 (k + 3) s (b, ((f : Int), mode)) = some (if (b.drop f).take s.size = strBytes s then (true, b, (((f + s.size : Nat) : Int), mode)) else (false, b, ((f : Int), mode))) := by
  rw [u28]
  unfold r28
  have h1 : 0 ≤ (f : Int) ∧ (f : Int) ≤ (b.length : Int) ∧ (b.length : Int) ≤ (b.length : Int) := ⟨by omega, by omega, by omega⟩
  have h2 : s.size ≤ 140737488355328 := by omega
  have e1 : cut b (f : Int) (b.length : Int) = b.drop f := by
    show (b.take b.length).drop f = _
    rw [List.take_length]
  simp only [if_pos h1, if_pos h2, e1, u65]
  unfold r65
  simp only [u106]
  unfold r106
  simp only [Option.bind_some]
  have w : IntKind.wrap .i64 ((f : Int) + (s.size : Int)) = ((f + s.size : Nat) : Int) := by rw [w64 (by omega) (by omega)]; omega
  by_cases hl : s.size ≤ (b.drop f).length
  · have h3 : decide (((b.drop f).length : Int) ≥ ((strBytes s).length : Int)) = true := decide_eq_true (by rw [strBytes_len]; omega)
    have h4 : 0 ≤ (0 : Int) ∧ (0 : Int) ≤ ((strBytes s).length : Int) ∧ ((strBytes s).length : Int) ≤ ((b.drop f).length : Int) := ⟨by omega, by omega, by rw [strBytes_len]; omega⟩
    have e2 : cut (b.drop f) (0 : Int) ((strBytes s).length : Int) = (b.drop f).take s.size := by rw [strBytes_len]; rfl
    have e3 : strEq (bytesStr ((b.drop f).take s.size)) (bytesStr (strBytes s)) = decide ((b.drop f).take s.size = strBytes s) := strEq_bytes (fun a ha => hb a (List.mem_of_mem_drop (List.mem_of_mem_take ha))) (strBytes_u8 s)
    simp only [h3, beq_self_eq_true, cond_true, if_pos h4, e2, e3, Option.bind_some]
    by_cases q : (b.drop f).take s.size = strBytes s
    · simp only [decide_eq_true q, Bool.not_true, cond_false, if_pos q, w]
    · simp only [decide_eq_false q, Bool.not_false, cond_true, if_neg q]
  · have h3 : decide (((b.drop f).length : Int) ≥ ((strBytes s).length : Int)) = false := decide_eq_false (by rw [strBytes_len]; omega)
    have q : (b.drop f).take s.size ≠ strBytes s := fun h => by
      have := congrArg List.length h
      rw [strBytes_len, List.length_take] at this
      omega
    simp only [h3, show (false == true) = false from rfl, cond_false, Option.bind_some, Bool.not_false, cond_true, if_neg q]
/-- A byte stands at a place. -/
def At (b : List Int) (i : Nat) (c : Int) : Prop := i < b.length ∧ b.getD i 0 = c
instance (b : List Int) (i : Nat) (c : Int) : Decidable (At b i c) := inferInstanceAs (Decidable (_ ∧ _))
theorem take_one (b : List Int) (f : Nat) (c : Int) : (b.drop f).take 1 = [c] ↔ At b f c := by
  unfold At
  by_cases h : f < b.length
  · have hg : b.getD f 0 = b[f] := by simp [List.getD, h]
    rw [List.drop_eq_getElem_cons h, hg]
    generalize b[f] = x
    generalize b.drop (f + 1) = l
    simp [h]
  · rw [List.drop_eq_nil_of_le (by omega)]
    simp [h]
theorem text1_is (k : Nat) (c : UInt8) (b : List Int) (f : Nat) (mode : Int) (hb : ∀ x ∈ b, 0 ≤ x ∧ x ≤ 255) (hlen : b.length ≤ 1099511627776) (hf : f ≤ b.length) :
    R28 (k + 3) ⟨#[c]⟩ (b, ((f : Int), mode)) = some (if At b f (c.toNat : Int) then (true, b, (((f + 1 : Nat) : Int), mode)) else (false, b, ((f : Int), mode))) := by
  rw [text_is k ⟨#[c]⟩ (by show 1 ≤ _; omega) b f mode hb hlen hf]
  have e : ((b.drop f).take 1 = [(c.toNat : Int)]) = At b f (c.toNat : Int) := propext (take_one b f _)
  have e1 : (⟨#[c]⟩ : ByteArray).size = 1 := rfl
  have e2 : strBytes ⟨#[c]⟩ = [(c.toNat : Int)] := rfl
  rw [e1, e2]
  by_cases h : At b f (c.toNat : Int)
  · rw [if_pos h, if_pos (e.symm ▸ h)]
  · rw [if_neg h, if_neg (e.symm ▸ h)]
theorem sign_is (k : Nat) (b : List Int) (i : Nat) (c : Int) : R15 (k + 1) b (i : Int) c = some (decide (At b i c)) := by
  rw [u15]
  unfold r15
  have h1 : decide ((i : Int) ≥ 0) = true := decide_eq_true (by omega)
  simp only [h1, beq_self_eq_true, cond_true]
  by_cases h : i < b.length
  · have h2 : decide ((i : Int) < (b.length : Int)) = true := decide_eq_true (by omega)
    have h3 : 0 ≤ (i : Int) ∧ (i : Int) < (b.length : Int) := ⟨by omega, by omega⟩
    simp only [h2, beq_self_eq_true, cond_true, if_pos h3]
    have e : (b.getD (i : Int).toNat 0 = c) = At b i c := propext ⟨fun q => ⟨h, q⟩, fun q => q.2⟩
    congr 1
    exact decide_eq_decide.2 (e ▸ Iff.rfl)
  · have h2 : decide ((i : Int) < (b.length : Int)) = false := decide_eq_false (by omega)
    simp only [h2, show (false == true) = false from rfl, cond_false]
    rw [decide_eq_false (show ¬ At b i c from fun q => h q.1)]
theorem sign_neg (k : Nat) (b : List Int) (i c : Int) (h : i < 0) : R15 (k + 1) b i c = some false := by
  rw [u15]
  unfold r15
  simp only [decide_eq_false (show ¬ i ≥ 0 by omega), show (false == true) = false from rfl, cond_false]
theorem scan_le : ∀ (l : List Int) (n : Int) (c : Nat) (v : Int) (c' : Nat), 0 ≤ n → n ≤ 1048576 → scan l n c = some (v, c') → c ≤ c' ∧ c' ≤ c + l.length ∧ 0 ≤ v ∧ v ≤ 1048576
  | [], n, c, v, c', h0, h1, h => by
    unfold scan at h
    split at h
    · cases h
    · cases h; exact ⟨Nat.le_refl _, by simp, h0, h1⟩
  | x :: l, n, c, v, c', h0, h1, h => by
    unfold scan at h
    split at h
    · split at h
      · cases h
      · have := scan_le l _ _ v c' (by omega) (by omega) h
        rw [List.length_cons]
        omega
    · split at h
      · cases h
      · cases h; exact ⟨Nat.le_refl _, by omega, h0, h1⟩
/-- A hunk's line. -/
def lineS (b : List Int) (f : Nat) : Option (Int × Int × Int × Nat) :=
  match scan (b.drop (f + 1)) 0 0 with
  | none => none
  | some (x, c1) => if At b (f + 1 + c1) 32 then (match scan (b.drop (f + 1 + c1 + 1)) 0 0 with
    | none => none
    | some (y, c2) => if At b (f + 1 + c1 + 1 + c2) 32 then (match scan (b.drop (f + 1 + c1 + 1 + c2 + 1)) 0 0 with
      | none => none
      | some (z, c3) => if At b (f + 1 + c1 + 1 + c2 + 1 + c3) 10 then some (x, y, z, f + 1 + c1 + 1 + c2 + 1 + c3 + 1) else none) else none) else none
theorem nat_succ (b : List Int) (hlen : b.length ≤ 1099511627776) {i : Nat} (h : i < b.length) : IntKind.wrap .i64 ((i : Int) + 1) = ((i + 1 : Nat) : Int) := by rw [w64 (by omega) (by omega)]; omega
theorem Line_is (k : Nat) (b : List Int) (f : Nat) (hb : ∀ x ∈ b, 0 ≤ x ∧ x ≤ 255) (hlen : b.length ≤ 1099511627776) (hk : b.length < k) (hf : f < b.length) :
    R16 (k + 2) b (f : Int) = some (match lineS b f with
      | some (x, y, z, e) => (x, y, z, (e : Int))
      | none => (0, 0, 0, -1)) := by
  rw [u16]
  unfold r16 lineS
  simp only [nat_succ b hlen hf, Number_is k b (f + 1) hb hlen hk (by omega), Option.bind_some]
  cases hs : scan (b.drop (f + 1)) 0 0 with
  | none => simp only [sign_neg k b (-1) 32 (by omega), Option.bind_some, Bool.not_false, cond_true]
  | some p =>
    obtain ⟨x, c1⟩ := p
    simp only [sign_is k b (f + 1 + c1) 32, Option.bind_some]
    by_cases a1 : At b (f + 1 + c1) 32
    · simp only [decide_eq_true a1, Bool.not_true, cond_false, if_pos a1, nat_succ b hlen a1.1, Number_is k b (f + 1 + c1 + 1) hb hlen hk (by have := a1.1; omega), Option.bind_some]
      cases hs2 : scan (b.drop (f + 1 + c1 + 1)) 0 0 with
      | none => simp only [sign_neg k b (-1) 32 (by omega), Option.bind_some, Bool.not_false, cond_true]
      | some p =>
        obtain ⟨y, c2⟩ := p
        simp only [sign_is k b (f + 1 + c1 + 1 + c2) 32, Option.bind_some]
        by_cases a2 : At b (f + 1 + c1 + 1 + c2) 32
        · simp only [decide_eq_true a2, Bool.not_true, cond_false, if_pos a2, nat_succ b hlen a2.1, Number_is k b (f + 1 + c1 + 1 + c2 + 1) hb hlen hk (by have := a2.1; omega), Option.bind_some]
          cases hs3 : scan (b.drop (f + 1 + c1 + 1 + c2 + 1)) 0 0 with
          | none => simp only [sign_neg k b (-1) 10 (by omega), Option.bind_some, Bool.not_false, cond_true]
          | some p =>
            obtain ⟨z, c3⟩ := p
            simp only [sign_is k b (f + 1 + c1 + 1 + c2 + 1 + c3) 10, Option.bind_some]
            by_cases a3 : At b (f + 1 + c1 + 1 + c2 + 1 + c3) 10
            · simp only [decide_eq_true a3, Bool.not_true, cond_false, if_pos a3, nat_succ b hlen a3.1]
            · simp only [decide_eq_false a3, Bool.not_false, cond_true, if_neg a3]
        · simp only [decide_eq_false a2, Bool.not_false, cond_true, if_neg a2]
    · simp only [decide_eq_false a1, Bool.not_false, cond_true, if_neg a1]
theorem rline_is (k : Nat) (b : List Int) (f : Nat) (mode : Int) (hb : ∀ x ∈ b, 0 ≤ x ∧ x ≤ 255) (hlen : b.length ≤ 1099511627776) (hk : b.length < k) (hf : At b f 64) :
    ∃ (x y z : Int) (ok : Bool) (p : Nat), R26 (k + 4) (b, ((f : Int), mode)) = some (x, y, z, ok, b, ((p : Int), mode)) ∧ f ≤ p ∧ p ≤ b.length ∧
      match lineS b f with
      | some (X, Y, Z, e) => x = X ∧ y = Y ∧ z = Z ∧ ok = true ∧ p = e
      | none => ok = false := by
  have hfl := hf.1
  have N := fun (g : Nat) (h : g ≤ b.length) => number_is (k + 2) b g mode hb hlen (by omega) h
  have T := fun (c : UInt8) (g : Nat) (h : g ≤ b.length) => text1_is k c b g mode hb hlen h
  rw [u26]
  unfold r26 lineS
  have t0 := T 64 f (by omega)
  rw [if_pos (show At b f ((64 : UInt8).toNat : Int) from hf)] at t0
  obtain ⟨v1, o1, p1, n1, l1, q1, m1⟩ := N (f + 1) (by omega)
  simp only [t0, Option.bind_some, Bool.not_true, cond_false, n1]
  cases hs : scan (b.drop (f + 1)) 0 0 with
  | none =>
    rw [hs] at m1
    obtain rfl : o1 = false := m1
    obtain ⟨v2, o2, p2, n2, l2, q2, _⟩ := N p1 q1
    obtain ⟨v3, o3, p3, n3, l3, q3, _⟩ := N p2 q2
    simp only [show (false == true) = false from rfl, cond_false, n2, n3, Option.bind_some]
    exact ⟨_, _, _, _, p3, rfl, by omega, q3, rfl⟩
  | some r =>
    obtain ⟨x, c1⟩ := r
    rw [hs] at m1
    obtain ⟨rfl, rfl, rfl⟩ := m1
    have t1 := T 32 (f + 1 + c1) q1
    simp only [beq_self_eq_true, cond_true]
    by_cases a1 : At b (f + 1 + c1) 32
    · rw [if_pos (show At b (f + 1 + c1) ((32 : UInt8).toNat : Int) from a1)] at t1
      have h1 := a1.1
      obtain ⟨v2, o2, p2, n2, l2, q2, m2⟩ := N (f + 1 + c1 + 1) (by omega)
      simp only [t1, Option.bind_some, n2, beq_self_eq_true, cond_true, if_pos a1]
      cases hs2 : scan (b.drop (f + 1 + c1 + 1)) 0 0 with
      | none =>
        rw [hs2] at m2
        obtain rfl : o2 = false := m2
        obtain ⟨v3, o3, p3, n3, l3, q3, _⟩ := N p2 q2
        simp only [show (false == true) = false from rfl, cond_false, n3, Option.bind_some]
        exact ⟨_, _, _, _, p3, rfl, by omega, q3, rfl⟩
      | some r =>
        obtain ⟨y, c2⟩ := r
        rw [hs2] at m2
        obtain ⟨rfl, rfl, rfl⟩ := m2
        have t2 := T 32 (f + 1 + c1 + 1 + c2) q2
        simp only [beq_self_eq_true, cond_true]
        by_cases a2 : At b (f + 1 + c1 + 1 + c2) 32
        · rw [if_pos (show At b (f + 1 + c1 + 1 + c2) ((32 : UInt8).toNat : Int) from a2)] at t2
          have h2 := a2.1
          obtain ⟨v3, o3, p3, n3, l3, q3, m3⟩ := N (f + 1 + c1 + 1 + c2 + 1) (by omega)
          simp only [t2, Option.bind_some, n3, beq_self_eq_true, cond_true, if_pos a2]
          cases hs3 : scan (b.drop (f + 1 + c1 + 1 + c2 + 1)) 0 0 with
          | none =>
            rw [hs3] at m3
            obtain rfl : o3 = false := m3
            simp only [show (false == true) = false from rfl, cond_false]
            exact ⟨_, _, _, _, p3, rfl, by omega, q3, rfl⟩
          | some r =>
            obtain ⟨z, c3⟩ := r
            rw [hs3] at m3
            obtain ⟨rfl, rfl, rfl⟩ := m3
            have t3 := T 10 (f + 1 + c1 + 1 + c2 + 1 + c3) q3
            simp only [beq_self_eq_true, cond_true]
            by_cases a3 : At b (f + 1 + c1 + 1 + c2 + 1 + c3) 10
            · rw [if_pos (show At b (f + 1 + c1 + 1 + c2 + 1 + c3) ((10 : UInt8).toNat : Int) from a3)] at t3
              have h3 := a3.1
              simp only [t3, Option.bind_some, if_pos a3]
              exact ⟨_, _, _, _, f + 1 + c1 + 1 + c2 + 1 + c3 + 1, rfl, by omega, by omega, rfl, rfl, rfl, rfl, rfl⟩
            · rw [if_neg (show ¬ At b (f + 1 + c1 + 1 + c2 + 1 + c3) ((10 : UInt8).toNat : Int) from a3)] at t3
              simp only [t3, Option.bind_some, if_neg a3]
              exact ⟨_, _, _, _, _, rfl, by omega, q3, rfl⟩
        · rw [if_neg (show ¬ At b (f + 1 + c1 + 1 + c2) ((32 : UInt8).toNat : Int) from a2)] at t2
          obtain ⟨v3, o3, p3, n3, l3, q3, _⟩ := N (f + 1 + c1 + 1 + c2) q2
          simp only [t2, Option.bind_some, n3, show (false == true) = false from rfl, cond_false, if_neg a2]
          exact ⟨_, _, _, _, p3, rfl, by omega, q3, rfl⟩
    · rw [if_neg (show ¬ At b (f + 1 + c1) ((32 : UInt8).toNat : Int) from a1)] at t1
      obtain ⟨v2, o2, p2, n2, l2, q2, _⟩ := N (f + 1 + c1) q1
      obtain ⟨v3, o3, p3, n3, l3, q3, _⟩ := N p2 q2
      simp only [t1, Option.bind_some, n2, n3, show (false == true) = false from rfl, cond_false, if_neg a1]
      exact ⟨_, _, _, _, p3, rfl, by omega, q3, rfl⟩
/-- May bytes be a token? -/
def isTok (mode : Int) (t : List Int) : Bool := if mode = 0 then decide (t.length = 1) else if mode = 1 then decide (0 < t.length) && decide ((10 : Int) ∉ t.dropLast) else false
theorem idxB_neg : ∀ (l : List Int) (c : Int), (BytesX.idxB l c < 0 ↔ c ∉ l) ∧ -1 ≤ BytesX.idxB l c
  | [], c => by simp [BytesX.idxB]
  | x :: l, c => by
    have ih := idxB_neg l c
    unfold BytesX.idxB
    by_cases h : x = c
    · subst h; simp
    · have h' : (x == c) = false := by simpa using h
      simp only [h', Bool.false_eq_true, if_false, List.mem_cons, not_or]
      by_cases h2 : BytesX.idxB l c = -1
      · have : (BytesX.idxB l c == -1) = true := by simpa using h2
        rw [if_pos this]
        have := ih.1.1 (by omega)
        exact ⟨⟨fun _ => ⟨fun e => h e.symm, this⟩, fun _ => by omega⟩, by omega⟩
      · have : ¬ (BytesX.idxB l c == -1) = true := by simpa using h2
        rw [if_neg this]
        exact ⟨⟨fun e => by omega, fun e => by have := ih.1.2 e.2; omega⟩, by omega⟩
theorem Is_is (k : Nat) (mode : Int) (t : List Int) (hb : ∀ x ∈ t, 0 ≤ x ∧ x ≤ 255) (hlen : t.length ≤ 1099511627776) : R105 (k + 3) mode t = some (isTok mode t) := by
  rw [u105]
  unfold r105 isTok
  by_cases m0 : mode = 0
  · simp only [decide_eq_true m0, cond_true, if_pos m0]
    congr 1
    exact decide_eq_decide.2 (by omega)
  · by_cases m1 : mode = 1
    · simp only [decide_eq_false m0, cond_false, decide_eq_true m1, cond_true, if_neg m0, if_pos m1]
      by_cases h : 0 < t.length
      · have h1 : decide ((t.length : Int) > 0) = true := decide_eq_true (by omega)
        have w : IntKind.wrap .i64 ((t.length : Int) - 1) = ((t.length - 1 : Nat) : Int) := by rw [w64 (by omega) (by omega)]; omega
        have h2 : 0 ≤ (0 : Int) ∧ (0 : Int) ≤ ((t.length - 1 : Nat) : Int) ∧ ((t.length - 1 : Nat) : Int) ≤ (t.length : Int) := ⟨by omega, by omega, by omega⟩
        have e : cut t (0 : Int) ((t.length - 1 : Nat) : Int) = t.dropLast := by
          rw [List.dropLast_eq_take]
          rfl
        have q : R67 (k + 2) t.dropLast 10 = some (BytesX.idxB t.dropLast 10) := by
          have qi : R107 (k + 1) t.dropLast 10 = some (BytesX.idxB t.dropLast 10) := by
            show BytesX.indexB (t.dropLast, 10) = _
            unfold BytesX.indexB
            have : (t.dropLast.all fun y => decide (0 ≤ y ∧ y < 256)) = true := List.all_eq_true.2 fun y hy => decide_eq_true (by have := hb y (List.dropLast_subset t hy); omega)
            simp only [this, Bool.true_and]
            rfl
          rw [u67]
          unfold r67
          rw [qi]
          rfl
        simp only [h1, beq_self_eq_true, cond_true, w, if_pos h2, e, q, Option.bind_some]
        congr 1
        rw [decide_eq_true h, Bool.true_and]
        exact decide_eq_decide.2 (idxB_neg _ _).1
      · have h1 : decide ((t.length : Int) > 0) = false := decide_eq_false (by omega)
        simp only [h1, show (false == true) = false from rfl, cond_false, decide_eq_false h, Bool.false_and]
    · simp only [decide_eq_false m0, cond_false, decide_eq_false m1, if_neg m0, if_neg m1]
theorem refIs_loop (t : List Int) (hlen : t.length ≤ 1099511627776) : ∀ (m i : Nat), t.length - i < m → i < t.length → (∀ j, j < i → t.getD j 0 ≠ 10) →
    ∃ s, iter F35_0 m (t, (i : Int)) = some s ∧ ((s = .inr false ∧ ¬ ∀ j, j + 1 < t.length → t.getD j 0 ≠ 10) ∨ (∃ z, s = .inl z) ∧ ∀ j, j + 1 < t.length → t.getD j 0 ≠ 10)
  | 0, i, h, _, _ => by omega
  | m + 1, i, hm, hi, hs => by
    show ∃ s, F35_0 (iter F35_0 m) _ = some s ∧ _
    unfold F35_0
    simp only [nat_succ t hlen hi]
    by_cases h : i + 1 < t.length
    · have h1 : decide (((i + 1 : Nat) : Int) < (t.length : Int)) = true := decide_eq_true (by omega)
      have h2 : 0 ≤ (i : Int) ∧ (i : Int) < (t.length : Int) := ⟨by omega, by omega⟩
      have hg : t.getD (i : Int).toNat 0 = t.getD i 0 := rfl
      simp only [h1, cond_true, if_pos h2, hg]
      by_cases q : t.getD i 0 = 10
      · simp only [decide_eq_true q, cond_true]
        exact ⟨_, rfl, .inl ⟨rfl, fun hh => hh i h q⟩⟩
      · simp only [decide_eq_false q, cond_false]
        exact refIs_loop t hlen m (i + 1) (by omega) h fun j hj => by
          rcases Nat.lt_or_ge j i with h5 | h5
          · exact hs j h5
          · obtain rfl : j = i := by omega
            exact q
    · have h1 : decide (((i + 1 : Nat) : Int) < (t.length : Int)) = false := decide_eq_false (by omega)
      simp only [h1, cond_false]
      exact ⟨_, rfl, .inr ⟨⟨_, rfl⟩, fun j hj => hs j (by omega)⟩⟩
theorem noNl (t : List Int) : ((10 : Int) ∉ t.dropLast) ↔ ∀ j, j + 1 < t.length → t.getD j 0 ≠ 10 := by
  constructor
  · intro h j hj e
    apply h
    rw [List.mem_iff_getElem]
    refine ⟨j, by rw [List.length_dropLast]; omega, ?_⟩
    rw [List.getElem_dropLast]
    simpa [List.getD, List.getElem?_eq_getElem (show j < t.length by omega)] using e
  · intro h hm
    rw [List.mem_iff_getElem] at hm
    obtain ⟨j, hj, e⟩ := hm
    rw [List.length_dropLast] at hj
    rw [List.getElem_dropLast] at e
    exact h j (by omega) (by simpa [List.getD, List.getElem?_eq_getElem (show j < t.length by omega)] using e)
theorem refIs_is (k : Nat) (mode : Int) (t : List Int) (hlen : t.length ≤ 1099511627776) (hk : t.length < k) : R35 (k + 1) mode t = some (isTok mode t) := by
  rw [u35]
  unfold r35 isTok
  by_cases m0 : mode = 0
  · simp only [decide_eq_true m0, cond_true, if_pos m0]
    congr 1
    exact decide_eq_decide.2 (by omega)
  · by_cases m1 : mode = 1
    · simp only [decide_eq_false m0, cond_false, decide_eq_true m1, Bool.not_true, beq_self_eq_true, cond_true, if_neg m0, if_pos m1]
      by_cases h : 0 < t.length
      · have h1 : decide ((t.length : Int) = 0) = false := decide_eq_false (by omega)
        obtain ⟨s, k1, k2⟩ := refIs_loop t hlen k 0 (by omega) h (fun j hj => by omega)
        have e : J35_0 k k (t, 0) = some s := k1
        simp only [h1, cond_false, e, Option.bind_some, decide_eq_true h, Bool.true_and]
        rcases k2 with ⟨rfl, q⟩ | ⟨⟨z, rfl⟩, q⟩
        · simp only [onSum, decide_eq_false (fun hh => q ((noNl t).1 hh))]
        · simp only [onSum, decide_eq_true ((noNl t).2 q)]
      · have h1 : decide ((t.length : Int) = 0) = true := decide_eq_true (by omega)
        simp only [h1, cond_true, decide_eq_false h, Bool.false_and]
    · simp only [decide_eq_false m0, cond_false, decide_eq_false m1, Bool.not_false, show (true == false) = false from rfl, if_neg m0, if_neg m1]
/-- A token at a place. -/
def tokS (mode : Int) (b : List Int) (f : Nat) : Option (List Int × Nat) :=
  match scan (b.drop f) 0 0 with
  | none => none
  | some (n, c) => if At b (f + c) 58 then (if At b (f + c + 1 + n.toNat) 10 then (if isTok mode ((b.drop (f + c + 1)).take n.toNat) = true then some ((b.drop (f + c + 1)).take n.toNat, f + c + 1 + n.toNat + 1) else none) else none) else none
theorem cut_mid (b : List Int) (i n : Nat) : cut b (i : Int) ((i + n : Nat) : Int) = (b.drop i).take n := by
  show (b.take (i + n)).drop i = _
  rw [List.drop_take]
  congr 1
  omega
theorem Token_is (k : Nat) (mode : Int) (b : List Int) (f : Nat) (hb : ∀ x ∈ b, 0 ≤ x ∧ x ≤ 255) (hlen : b.length ≤ 1099511627776) (hk : b.length < k) (hf : f ≤ b.length) :
    R17 (k + 2) mode b (f : Int) = some (match tokS mode b f with
      | some (t, e) => (t, (e : Int))
      | none => ([], -1)) := by
  rw [u17]
  unfold r17 tokS
  simp only [Number_is k b f hb hlen hk hf, Option.bind_some]
  cases hs : scan (b.drop f) 0 0 with
  | none => simp only [sign_neg k b (-1) 58 (by omega), Option.bind_some, Bool.not_false, show (true == false) = false from rfl, cond_false]
  | some p =>
    obtain ⟨n, c⟩ := p
    have hsc := scan_le _ _ _ _ _ (by omega) (by omega) hs
    obtain ⟨N, rfl⟩ : ∃ N : Nat, n = N := ⟨n.toNat, by omega⟩
    simp only [sign_is k b (f + c) 58, Option.bind_some, Int.toNat_natCast]
    by_cases a1 : At b (f + c) 58
    · have h1 := a1.1
      have w1 : IntKind.wrap .i64 ((b.length : Int) - ((f + c : Nat) : Int)) = (b.length : Int) - ((f + c : Nat) : Int) := w64 (by omega) (by omega)
      have w2 : IntKind.wrap .i64 ((b.length : Int) - ((f + c : Nat) : Int) - 1) = (b.length : Int) - ((f + c : Nat) : Int) - 1 := w64 (by omega) (by omega)
      have w3 : IntKind.wrap .i64 (((f + c + 1 : Nat) : Int) + (N : Int)) = ((f + c + 1 + N : Nat) : Int) := by rw [w64 (by omega) (by omega)]; omega
      simp only [decide_eq_true a1, Bool.not_true, beq_self_eq_true, cond_true, w1, w2, if_pos a1, nat_succ b hlen h1, w3]
      by_cases big : (b.length : Int) - ((f + c : Nat) : Int) - 1 < (N : Int)
      · simp only [decide_eq_true big, cond_true]
        rw [if_neg (fun q : At b (f + c + 1 + N) 10 => by have := q.1; omega)]
      · simp only [decide_eq_false big, cond_false, sign_is k b (f + c + 1 + N) 10, Option.bind_some]
        by_cases a2 : At b (f + c + 1 + N) 10
        · have h2 := a2.1
          have h3 : 0 ≤ ((f + c + 1 : Nat) : Int) ∧ ((f + c + 1 : Nat) : Int) ≤ ((f + c + 1 + N : Nat) : Int) ∧ ((f + c + 1 + N : Nat) : Int) ≤ (b.length : Int) := ⟨by omega, by omega, by omega⟩
          have hl : ((b.drop (f + c + 1)).take N).length ≤ b.length := by rw [List.length_take, List.length_drop]; omega
          simp only [decide_eq_true a2, Bool.not_true, beq_self_eq_true, cond_true, if_pos h3, cut_mid, refIs_is k mode ((b.drop (f + c + 1)).take N) (by omega) (by omega), Option.bind_some, if_pos a2, nat_succ b hlen h2]
          cases isTok mode ((b.drop (f + c + 1)).take N) <;> rfl
        · simp only [decide_eq_false a2, Bool.not_false, show (true == false) = false from rfl, cond_false, if_neg a2]
    · simp only [decide_eq_false a1, Bool.not_false, show (true == false) = false from rfl, cond_false, if_neg a1]
theorem rtoken_is (k : Nat) (b : List Int) (f : Nat) (mode : Int) (hb : ∀ x ∈ b, 0 ≤ x ∧ x ≤ 255) (hlen : b.length ≤ 1099511627776) (hk : b.length < k) (hf : f ≤ b.length) :
    ∃ (t : List Int) (ok : Bool) (p : Nat), R64 (k + 4) (b, ((f : Int), mode)) = some (t, ok, b, ((p : Int), mode)) ∧ f ≤ p ∧ p ≤ b.length ∧
      match tokS mode b f with
      | some (T, e) => t = T ∧ ok = true ∧ p = e
      | none => ok = false := by
  rw [u64]
  unfold r64 tokS
  obtain ⟨v1, o1, p1, n1, l1, q1, m1⟩ := number_is (k + 2) b f mode hb hlen (by omega) hf
  simp only [n1, Option.bind_some]
  cases hs : scan (b.drop f) 0 0 with
  | none =>
    rw [hs] at m1
    obtain rfl : o1 = false := m1
    simp only [Bool.not_false, show (true == false) = false from rfl, cond_false]
    exact ⟨_, _, p1, rfl, l1, q1, rfl⟩
  | some r =>
    obtain ⟨n, c⟩ := r
    rw [hs] at m1
    obtain ⟨rfl, rfl, rfl⟩ := m1
    have hsc := scan_le _ _ _ _ _ (by omega) (by omega) hs
    obtain ⟨N, rfl⟩ : ∃ N : Nat, v1 = N := ⟨v1.toNat, by omega⟩
    have t1 := text1_is k 58 b (f + c) mode hb hlen q1
    simp only [Bool.not_true, beq_self_eq_true, cond_true, Int.toNat_natCast]
    by_cases a1 : At b (f + c) 58
    · rw [if_pos (show At b (f + c) ((58 : UInt8).toNat : Int) from a1)] at t1
      have h1 := a1.1
      have w1 : IntKind.wrap .i64 ((b.length : Int) - ((f + c + 1 : Nat) : Int)) = (b.length : Int) - ((f + c + 1 : Nat) : Int) := w64 (by omega) (by omega)
      have w3 : IntKind.wrap .i64 (((f + c + 1 : Nat) : Int) + (N : Int)) = ((f + c + 1 + N : Nat) : Int) := by rw [w64 (by omega) (by omega)]; omega
      simp only [t1, Option.bind_some, Bool.not_true, beq_self_eq_true, cond_true, w1, w3, if_pos a1]
      by_cases big : (N : Int) > (b.length : Int) - ((f + c + 1 : Nat) : Int)
      · simp only [decide_eq_true big, cond_true]
        rw [if_neg (fun q : At b (f + c + 1 + N) 10 => by have := q.1; omega)]
        exact ⟨_, _, f + c + 1, rfl, by omega, by omega, rfl⟩
      · have h3 : 0 ≤ ((f + c + 1 : Nat) : Int) ∧ ((f + c + 1 : Nat) : Int) ≤ ((f + c + 1 + N : Nat) : Int) ∧ ((f + c + 1 + N : Nat) : Int) ≤ (b.length : Int) := ⟨by omega, by omega, by omega⟩
        have hl : ((b.drop (f + c + 1)).take N).length ≤ b.length := by rw [List.length_take, List.length_drop]; omega
        have cl : R68 (k + 3) ((b.drop (f + c + 1)).take N) = some ((b.drop (f + c + 1)).take N) := by
          show BytesX.cloneB _ = _
          unfold BytesX.cloneB
          rw [if_pos (by omega)]
        have t2 := text1_is k 10 b (f + c + 1 + N) mode hb hlen (by omega)
        simp only [decide_eq_false big, cond_false, if_pos h3, cut_mid, cl, Option.bind_some]
        by_cases a2 : At b (f + c + 1 + N) 10
        · rw [if_pos (show At b (f + c + 1 + N) ((10 : UInt8).toNat : Int) from a2)] at t2
          have h2 := a2.1
          have isq := Is_is k mode ((b.drop (f + c + 1)).take N) (fun x hx => hb x (List.mem_of_mem_drop (List.mem_of_mem_take hx))) (by omega)
          simp only [t2, Option.bind_some, beq_self_eq_true, cond_true, isq, if_pos a2]
          refine ⟨_, _, f + c + 1 + N + 1, rfl, by omega, by omega, ?_⟩
          cases isTok mode ((b.drop (f + c + 1)).take N) with
          | true => exact ⟨rfl, rfl, rfl⟩
          | false => rfl
        · rw [if_neg (show ¬ At b (f + c + 1 + N) ((10 : UInt8).toNat : Int) from a2)] at t2
          simp only [t2, Option.bind_some, show (false == true) = false from rfl, cond_false, if_neg a2]
          exact ⟨_, _, f + c + 1 + N, rfl, by omega, by omega, rfl⟩
    · rw [if_neg (show ¬ At b (f + c) ((58 : UInt8).toNat : Int) from a1)] at t1
      simp only [t1, Option.bind_some, Bool.not_false, show (true == false) = false from rfl, cond_false, if_neg a1]
      exact ⟨_, _, f + c, rfl, by omega, q1, rfl⟩
theorem tokS_le {mode : Int} {b : List Int} {f : Nat} {t : List Int} {e : Nat} (h : tokS mode b f = some (t, e)) : f < e ∧ e ≤ b.length := by
  unfold tokS at h
  split at h
  · cases h
  · split at h
    · split at h
      · rename_i a2
        split at h
        · cases h
          have := a2.1
          omega
        · cases h
      · cases h
    · cases h
/-- So many tokens from a place on. -/
def toksS (mode : Int) (b : List Int) : Nat → Nat → List (List Int) → (List (List Int) × Nat) ⊕ Nat
  | 0, f, acc => .inl (acc, f)
  | n + 1, f, acc => match tokS mode b f with
    | none => .inr f
    | some (t, e) => toksS mode b n e (acc ++ [t])
theorem rtoks_loop (k : Nat) (b : List Int) (mode : Int) (hb : ∀ x ∈ b, 0 ≤ x ∧ x ≤ 255) (hlen : b.length ≤ 1099511627776) (hk : b.length < k) (N : Int) (hN : N ≤ 1048576) : ∀ (m d : Nat) (f : Nat) (i : Int) (acc : List (List Int)), b.length - f < m → f ≤ b.length → 0 ≤ i → i + d = N → acc.length ≤ f →
    ∃ s, iter (F27_0 (R64 (k + 4))) m (N, i, (b, ((f : Int), mode)), acc) = some s ∧
      match toksS mode b d f acc with
      | .inl (l, e) => s = .inl (N, N, (b, ((e : Int), mode)), l) ∧ f ≤ e ∧ e ≤ b.length
      | .inr p => ∃ q : Nat, s = .inr ([], (p : Int), false, b, ((q : Int), mode))
  | 0, d, f, i, acc, h, _, _, _, _ => by omega
  | m + 1, d, f, i, acc, hm, hf, hi, hd, ha => by
    show ∃ s, F27_0 _ (iter (F27_0 _) m) _ = some s ∧ _
    unfold F27_0
    simp only
    cases d with
    | zero =>
      have e : i = N := by omega
      subst e
      simp only [decide_eq_false (show ¬ i < i by omega), cond_false]
      exact ⟨_, rfl, rfl, Nat.le_refl _, hf⟩
    | succ d =>
      obtain ⟨t, ok, p, h1, h2, h3, h4⟩ := rtoken_is k b f mode hb hlen hk hf
      simp only [decide_eq_true (show i < N by omega), cond_true, h1, Option.bind_some, toksS]
      cases ht : tokS mode b f with
      | none =>
        rw [ht] at h4
        obtain rfl : ok = false := h4
        simp only [Bool.not_false, cond_true]
        exact ⟨_, rfl, p, rfl⟩
      | some r =>
        obtain ⟨T, e⟩ := r
        rw [ht] at h4
        obtain ⟨rfl, rfl, rfl⟩ := h4
        have hp := tokS_le ht
        have g1 : (acc.length + [t].length) * 24 ≤ 140737488355328 ∧ acc.length + [t].length ≤ 140737488355328 := by
          simp only [List.length_cons, List.length_nil]
          omega
        have w : IntKind.wrap .i64 (i + 1) = i + 1 := w64 (by omega) (by omega)
        simp only [Bool.not_true, cond_false, if_pos g1, w]
        obtain ⟨s, q1, q2⟩ := rtoks_loop k b mode hb hlen hk N hN m d p (i + 1) (acc ++ [t]) (by omega) h3 (by omega) (by omega) (by simp; omega)
        refine ⟨s, q1, ?_⟩
        split at q2
        · exact ⟨q2.1, by omega, q2.2.2⟩
        · exact q2
/-- The reader's tokens. -/
theorem rtokens_is (k : Nat) (b : List Int) (f : Nat) (mode : Int) (hb : ∀ x ∈ b, 0 ≤ x ∧ x ≤ 255) (hlen : b.length ≤ 1099511627776) (hk : b.length < k) (hf : f ≤ b.length) (d : Nat) (hd : d ≤ 1048576) :
    match toksS mode b d f [] with
    | .inl (l, e) => R27 (k + 5) (d : Int) (b, ((f : Int), mode)) = some (l, 0, true, b, ((e : Int), mode)) ∧ f ≤ e ∧ e ≤ b.length
    | .inr p => ∃ q : Nat, R27 (k + 5) (d : Int) (b, ((f : Int), mode)) = some ([], (p : Int), false, b, ((q : Int), mode)) := by
  obtain ⟨s, q1, q2⟩ := rtoks_loop k b mode hb hlen hk (d : Int) (by omega) (k + 4) d f 0 [] (by omega) hf (by omega) (by omega) (by simp)
  have e : J27_0 (k + 4) (k + 4) ((d : Int), 0, (b, ((f : Int), mode)), []) = some s := q1
  rw [u27]
  unfold r27
  simp only [e, Option.bind_some]
  split at q2
  · obtain ⟨rfl, h1, h2⟩ := q2
    exact ⟨rfl, h1, h2⟩
  · obtain ⟨q, rfl⟩ := q2
    exact ⟨q, rfl⟩
end Go.Proofs.YtakjaafenhdpjaaGreat.ETopAnyBytes
