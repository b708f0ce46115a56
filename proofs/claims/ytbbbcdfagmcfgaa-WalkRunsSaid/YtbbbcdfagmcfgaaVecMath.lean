import Derived.Laws.BitsLemmas
import Derived.RowKit
import Derived.Test.YtbbbcdfagmcfgaaWWords
import Derived.Test.YtbbbcdfagmcfgaaSmW
namespace Go.Proofs.Ytbbbcdfagmcfgaa.VecMath
open Go.RowKit Go.Proofs.YtbbbcdfagmcfgaaW.PrintWords Go.Proofs.YtbbbcdfagmcfgaaW.PrintMore

/-! Numbers in words of 64 bits: plain laws, no program in sight. -/

/-- Word k of a number. -/
def wd (N k : Nat) : Nat := N / 2 ^ (64 * k) % 2 ^ 64
/-- A number's first words. -/
def lay (N n : Nat) : List Int := (List.range n).map fun k => (wd N k : Int)
/-- The number of some words. -/
def val : List Int → Nat
  | [] => 0
  | x :: xs => x.toNat + 2 ^ 64 * val xs
/-- Each is a word. -/
def OK (xs : List Int) : Prop := ∀ x ∈ xs, 0 ≤ x ∧ x < 18446744073709551616

theorem wd_lt (N k : Nat) : wd N k < 2 ^ 64 := Nat.mod_lt _ (by decide)
theorem wd_testBit (N k j : Nat) : (wd N k).testBit j = (decide (j < 64) && N.testBit (64 * k + j)) := by
  unfold wd
  rw [Nat.testBit_mod_two_pow, Nat.testBit_div_two_pow, Nat.add_comm]
theorem wd_eq {N M k : Nat} (h : ∀ j, j < 64 → N.testBit (64 * k + j) = M.testBit (64 * k + j)) : wd N k = wd M k := by
  apply Nat.eq_of_testBit_eq
  intro j
  rw [wd_testBit, wd_testBit]
  by_cases hj : j < 64
  · simp [hj, h j hj]
  · simp [hj]
theorem lay_length (N n : Nat) : (lay N n).length = n := by simp [lay]
theorem lay_getD (N n k : Nat) (h : k < n) : (lay N n).getD k 0 = wd N k := by
  simp [lay, List.getD_eq_getElem?_getD, List.getElem?_map, List.getElem?_range h]
theorem lay_OK (N n : Nat) : OK (lay N n) := by
  intro x hx
  simp only [lay, List.mem_map, List.mem_range] at hx
  obtain ⟨k, _, rfl⟩ := hx
  have := wd_lt N k
  omega
theorem lay_congr {N M n : Nat} (h : ∀ i, i < 64 * n → N.testBit i = M.testBit i) : lay N n = lay M n := by
  unfold lay
  apply List.map_congr_left
  intro k hk
  rw [List.mem_range] at hk
  rw [wd_eq fun j hj => h _ (by omega)]
theorem OK.tail {x : Int} {xs : List Int} (h : OK (x :: xs)) : OK xs := fun y hy => h y (by simp [hy])
theorem OK.head {x : Int} {xs : List Int} (h : OK (x :: xs)) : x.toNat < 2 ^ 64 := by
  have := h x (by simp)
  omega
theorem OK.getD {xs : List Int} (h : OK xs) (k : Nat) : 0 ≤ xs.getD k 0 ∧ xs.getD k 0 < 18446744073709551616 := by
  rw [List.getD_eq_getElem?_getD]
  by_cases hk : k < xs.length
  · rw [List.getElem?_eq_getElem hk]
    exact h _ (List.getElem_mem hk)
  · rw [List.getElem?_eq_none (by omega)]
    simp
theorem wd_val : ∀ {xs : List Int}, OK xs → ∀ k, wd (val xs) k = (xs.getD k 0).toNat
  | [], _, k => by simp [wd, val]
  | x :: xs, h, 0 => by
    have := h.head
    simp only [wd, val, Nat.mul_zero, Nat.pow_zero, Nat.div_one, List.getD_cons_zero]
    rw [Nat.add_mul_mod_self_left, Nat.mod_eq_of_lt this]
  | x :: xs, h, k + 1 => by
    have h1 := h.head
    have h2 := wd_val h.tail k
    rw [List.getD_cons_succ, ← h2]
    unfold wd
    rw [val, show 64 * (k + 1) = 64 + 64 * k by omega, Nat.pow_add, ← Nat.div_div_eq_div_mul, Nat.add_mul_div_left _ _ (by decide), Nat.div_eq_of_lt h1, Nat.zero_add]
theorem val_word {xs : List Int} (h : OK xs) (k : Nat) : xs.getD k 0 = (wd (val xs) k : Int) := by
  rw [wd_val h]
  have := h.getD k
  omega
theorem lay_val {xs : List Int} (h : OK xs) : lay (val xs) xs.length = xs := by
  apply List.ext_getElem
  · simp [lay]
  · intro k h1 h2
    have := val_word h k
    simp only [lay, List.getElem_map, List.getElem_range]
    rw [← this, List.getD_eq_getElem?_getD, List.getElem?_eq_getElem h2]
    rfl
theorem val_lt : ∀ {xs : List Int}, OK xs → val xs < 2 ^ (64 * xs.length)
  | [], _ => by simp [val]
  | x :: xs, h => by
    have h1 := h.head
    have h2 := val_lt h.tail
    rw [val, List.length_cons, show 64 * (xs.length + 1) = 64 + 64 * xs.length by omega, Nat.pow_add]
    calc x.toNat + 2 ^ 64 * val xs < 2 ^ 64 + 2 ^ 64 * val xs := by omega
      _ = 2 ^ 64 * (val xs + 1) := by rw [Nat.mul_add, Nat.mul_one, Nat.add_comm]
      _ ≤ 2 ^ 64 * 2 ^ (64 * xs.length) := Nat.mul_le_mul_left _ h2
theorem val_testBit {xs : List Int} (h : OK xs) (i : Nat) : (val xs).testBit i = ((xs.getD (i / 64) 0).toNat).testBit (i % 64) := by
  rw [← wd_val h, wd_testBit, show 64 * (i / 64) + i % 64 = i by omega]
  simp [Nat.mod_lt]
theorem val_testBit_out {xs : List Int} (h : OK xs) {i : Nat} (hi : 64 * xs.length ≤ i) : (val xs).testBit i = false :=
  Nat.testBit_lt_two_pow (Nat.lt_of_lt_of_le (val_lt h) (Nat.pow_le_pow_right (by decide) hi))
theorem val_lay (N n : Nat) : val (lay N n) = N % 2 ^ (64 * n) := by
  apply Nat.eq_of_testBit_eq
  intro i
  rw [Nat.testBit_mod_two_pow]
  by_cases hi : i < 64 * n
  · rw [val_testBit (lay_OK _ _), lay_getD _ _ _ (by omega), Int.toNat_natCast, wd_testBit, show 64 * (i / 64) + i % 64 = i by omega]
    simp [hi, Nat.mod_lt]
  · rw [val_testBit_out (lay_OK _ _) (by rw [lay_length]; omega)]
    simp [hi]
theorem val_lay_lt {N n : Nat} (h : N < 2 ^ (64 * n)) : val (lay N n) = N := by rw [val_lay, Nat.mod_eq_of_lt h]
theorem lay_mod (N n : Nat) : lay (N % 2 ^ (64 * n)) n = lay N n := by
  apply lay_congr
  intro i hi
  rw [Nat.testBit_mod_two_pow]
  simp [hi]

/-! ### Words by themselves -/
theorem wraps_u64 (n : Int) (h₀ : 0 ≤ n) (h₁ : n < 2 ^ 64) : IntKind.u64.wrap n = n := by
  simp [IntKind.wrap, IntKind.bits, IntKind.signed]
  omega
theorem band {a b : Nat} (ha : a < 2 ^ 64) (hb : b < 2 ^ 64) : Go.bits .and .u64 (a : Int) (b : Int) = ((a &&& b : Nat) : Int) :=
  (bits_nat .u64 64 (by decide) wraps_u64 a b ha hb).1
theorem bor {a b : Nat} (ha : a < 2 ^ 64) (hb : b < 2 ^ 64) : Go.bits .or .u64 (a : Int) (b : Int) = ((a ||| b : Nat) : Int) :=
  (bits_nat .u64 64 (by decide) wraps_u64 a b ha hb).2
theorem bnot {a : Nat} (ha : a < 2 ^ 64) : Go.bits .xor .u64 IntKind.u64.max (a : Int) = ((2 ^ 64 - 1 - a : Nat) : Int) := by
  have hm : IntKind.u64.max = ((2 ^ 64 - 1 : Nat) : Int) := by decide
  rw [hm]
  simp only [Go.bits, BitVec.ofInt_natCast, BitVec.toNat_xor, BitVec.toNat_ofNat]
  have e : (2 ^ 64 - 1) % 2 ^ IntKind.u64.bits ^^^ a % 2 ^ IntKind.u64.bits = 2 ^ 64 - 1 - a := by
    rw [show IntKind.u64.bits = 64 from rfl, Nat.mod_eq_of_lt ha, Nat.mod_eq_of_lt (by decide)]
    apply Nat.eq_of_testBit_eq
    intro i
    rw [Nat.testBit_xor, show 2 ^ 64 - 1 - a = 2 ^ 64 - (a + 1) by omega, Nat.testBit_two_pow_sub_succ ha, Nat.testBit_two_pow_sub_one]
    by_cases hi : i < 64
    · simp [hi]
    · simp [hi, Nat.testBit_lt_two_pow (Nat.lt_of_lt_of_le ha (Nat.pow_le_pow_right (by decide) (Nat.le_of_not_lt hi)))]
  rw [e]
  exact wraps_u64 _ (by omega) (by omega)
theorem wrap64_id {n : Int} (h0 : -9223372036854775808 ≤ n) (h1 : n < 9223372036854775808) : wrap64 n = n := by
  unfold wrap64
  omega
theorem shl_one {c : Nat} (hc : c < 64) : shl .u64 1 (c : Int) = ((2 ^ c : Nat) : Int) := by
  unfold shl
  rw [Int.toNat_natCast, show IntKind.u64.bits = 64 from rfl, Nat.min_eq_left (by omega), Int.one_mul]
  have : (2 : Nat) ^ c < 2 ^ 64 := Nat.pow_lt_pow_right (by decide) hc
  have e : ((2 : Int) ^ c) = ((2 ^ c : Nat) : Int) := by simp
  rw [e]
  exact wraps_u64 _ (Int.natCast_nonneg _) (by have := Int.ofNat_lt.2 this; simpa using this)
theorem shr_nat {a c : Nat} (hc : c ≤ 64) : shr .u64 (a : Int) (c : Int) = ((a / 2 ^ c : Nat) : Int) := by
  unfold shr
  rw [Int.toNat_natCast, show IntKind.u64.bits = 64 from rfl, Nat.min_eq_left hc]
  simp

/-! ### A row that is filled, place by place -/
theorem fillE {α β S : Type} (F : Nat → List α → S → Int → Option β) (n : Nat) (st : Nat → S) (g : Nat → α) (r : β)
    (hs : ∀ (z : List α) (i : Nat), i < n → z.length = n → Ev (fun k => F k (z.set i (g i)) (st (i + 1)) ((i : Int) + 1)) r → Ev (fun k => F k z (st i) (i : Int)) r)
    (he : Ev (fun k => F k ((List.range n).map g) (st n) (n : Int)) r) (z : List α) (hz : z.length = n) : Ev (fun k => F k z (st 0) 0) r := by
  have key : ∀ d, d ≤ n → ∀ z : List α, z.length = n → (∀ i, i < n - d → z[i]? = some (g i)) → Ev (fun k => F k z (st (n - d)) ((n - d : Nat) : Int)) r := by
    intro d
    induction d with
    | zero =>
      intro _ z hz hg
      have : z = (List.range n).map g := by
        apply List.ext_getElem?
        intro i
        by_cases hi : i < n
        · rw [hg i (by omega)]
          simp [List.getElem?_range hi]
        · rw [List.getElem?_eq_none (by omega), List.getElem?_eq_none (by simp; omega)]
      rw [this]
      exact he
    | succ d ih =>
      intro hd z hz hg
      refine hs z (n - (d + 1)) (by omega) hz ?_
      have h1 := ih (by omega) (z.set (n - (d + 1)) (g (n - (d + 1)))) (by simp [hz]) (fun i hi => by
        by_cases e : n - (d + 1) = i
        · subst e
          rw [List.getElem?_set_self (by omega)]
        · rw [List.getElem?_set_ne e]
          exact hg i (by omega))
      rw [show n - (d + 1) + 1 = n - d by omega, show ((n - (d + 1) : Nat) : Int) + 1 = ((n - d : Nat) : Int) by omega]
      exact h1
  have := key n (Nat.le_refl _) z hz (fun i hi => by omega)
  simpa using this

/-! ### Sums and differences, word by word and bit by bit -/
theorem mod_step (X i : Nat) : X % 2 ^ (64 * (i + 1)) = X % 2 ^ (64 * i) + 2 ^ (64 * i) * wd X i := by
  unfold wd
  rw [show 64 * (i + 1) = 64 * i + 64 by omega, Nat.pow_add, Nat.mod_mul]
/-- The carry into word i of a sum; the borrow. -/
def car (X Y B : Nat) : Nat := (X % B + Y % B) / B
def bow (X Y B : Nat) : Nat := if X % B < Y % B then 1 else 0
theorem car_le (X Y : Nat) {B : Nat} (h : 0 < B) : car X Y B ≤ 1 := by
  unfold car
  have := Nat.mod_lt X h
  have := Nat.mod_lt Y h
  exact Nat.le_of_lt_succ (Nat.div_lt_of_lt_mul (by omega))
theorem add_div_car (X Y : Nat) {B : Nat} (h : 0 < B) : (X + Y) / B = X / B + Y / B + car X Y B := by
  unfold car
  have e : X + Y = (X % B + Y % B) + B * (X / B + Y / B) := by
    have := Nat.mod_add_div X B
    have := Nat.mod_add_div Y B
    rw [Nat.mul_add]
    omega
  rw [e, Nat.add_mul_div_left _ _ h]
  omega
theorem car_next (X Y i : Nat) : car X Y (2 ^ (64 * (i + 1))) = (wd X i + wd Y i + car X Y (2 ^ (64 * i))) / 2 ^ 64 := by
  have hp : 0 < 2 ^ (64 * i) := Nat.two_pow_pos _
  have e : (2 : Nat) ^ (64 * (i + 1)) = 2 ^ (64 * i) * 2 ^ 64 := by rw [show 64 * (i + 1) = 64 * i + 64 by omega, Nat.pow_add]
  unfold car
  rw [mod_step, mod_step, e, ← Nat.div_div_eq_div_mul]
  rw [show X % 2 ^ (64 * i) + 2 ^ (64 * i) * wd X i + (Y % 2 ^ (64 * i) + 2 ^ (64 * i) * wd Y i) = (X % 2 ^ (64 * i) + Y % 2 ^ (64 * i)) + 2 ^ (64 * i) * (wd X i + wd Y i) by rw [Nat.mul_add]; omega]
  rw [Nat.add_mul_div_left _ _ hp, Nat.add_comm]
theorem wd_add (X Y i : Nat) : wd (X + Y) i = (wd X i + wd Y i + car X Y (2 ^ (64 * i))) % 2 ^ 64 := by
  unfold wd
  rw [add_div_car X Y (Nat.two_pow_pos _)]
  omega
theorem two_digit (_b X : Nat) (i : Nat) : X / 2 ^ i % 2 = (X.testBit i).toNat := by
  rw [Nat.testBit_eq_decide_div_mod_eq]
  have : X / 2 ^ i % 2 = 0 ∨ X / 2 ^ i % 2 = 1 := by omega
  rcases this with h | h <;> simp [h]
theorem mod_bit (X i : Nat) : X % 2 ^ (i + 1) = X % 2 ^ i + 2 ^ i * (X.testBit i).toNat := by
  rw [Nat.pow_succ, Nat.mod_mul, two_digit 0]
theorem bit_add (X Y i : Nat) : (X + Y).testBit i = ((X.testBit i != Y.testBit i) != decide (car X Y (2 ^ i) = 1)) := by
  have h1 := two_digit 0 X i
  have h2 := two_digit 0 Y i
  have h3 := two_digit 0 (X + Y) i
  rw [add_div_car X Y (Nat.two_pow_pos _)] at h3
  have h4 := car_le X Y (Nat.two_pow_pos i)
  have h5 : (X / 2 ^ i + Y / 2 ^ i + car X Y (2 ^ i)) % 2 = (X / 2 ^ i % 2 + Y / 2 ^ i % 2 + car X Y (2 ^ i)) % 2 := by omega
  rw [h5, h1, h2] at h3
  have : car X Y (2 ^ i) = 0 ∨ car X Y (2 ^ i) = 1 := by omega
  rcases this with h | h <;> rw [h] at h3 ⊢ <;> revert h3 <;> cases X.testBit i <;> cases Y.testBit i <;> cases (X + Y).testBit i <;> simp
theorem car_bit (X Y i : Nat) : decide (car X Y (2 ^ (i + 1)) = 1) = (X.testBit i && Y.testBit i || X.testBit i && decide (car X Y (2 ^ i) = 1) || Y.testBit i && decide (car X Y (2 ^ i) = 1)) := by
  have hp : 0 < 2 ^ i := Nat.two_pow_pos _
  have key : car X Y (2 ^ (i + 1)) = ((X.testBit i).toNat + (Y.testBit i).toNat + car X Y (2 ^ i)) / 2 := by
    unfold car
    rw [mod_bit, mod_bit, Nat.pow_succ, ← Nat.div_div_eq_div_mul]
    rw [show X % 2 ^ i + 2 ^ i * (X.testBit i).toNat + (Y % 2 ^ i + 2 ^ i * (Y.testBit i).toNat) = (X % 2 ^ i + Y % 2 ^ i) + 2 ^ i * ((X.testBit i).toNat + (Y.testBit i).toNat) by rw [Nat.mul_add]; omega]
    rw [Nat.add_mul_div_left _ _ hp, Nat.add_comm]
  have h4 := car_le X Y hp
  have : car X Y (2 ^ i) = 0 ∨ car X Y (2 ^ i) = 1 := by omega
  rw [key]
  rcases this with h | h <;> rw [h] <;> cases X.testBit i <;> cases Y.testBit i <;> simp
theorem car_zero (X Y : Nat) : car X Y (2 ^ 0) = 0 := by simp [car, Nat.mod_one]
theorem bow_zero (X Y : Nat) : bow X Y (2 ^ 0) = 0 := by simp [bow, Nat.mod_one]
theorem bow_le (X Y B : Nat) : bow X Y B ≤ 1 := by unfold bow; split <;> omega
theorem bow_next (X Y i : Nat) : bow X Y (2 ^ (64 * (i + 1))) = if wd X i < wd Y i + bow X Y (2 ^ (64 * i)) then 1 else 0 := by
  have hx := Nat.mod_lt X (Nat.two_pow_pos (64 * i))
  have hy := Nat.mod_lt Y (Nat.two_pow_pos (64 * i))
  unfold bow
  rw [mod_step X, mod_step Y]
  generalize X % 2 ^ (64 * i) = a at *
  generalize Y % 2 ^ (64 * i) = b at *
  generalize 2 ^ (64 * i) = B at *
  generalize wd X i = p
  generalize wd Y i = q
  rcases Nat.lt_trichotomy p q with h | h | h
  · have : B * (p + 1) ≤ B * q := Nat.mul_le_mul_left _ h
    rw [Nat.mul_add] at this
    rw [if_pos (by omega), if_pos (by split <;> omega)]
  · subst h
    by_cases hab : a < b
    · rw [if_pos (by omega), if_pos hab, if_pos (by omega)]
    · rw [if_neg (by omega), if_neg hab, if_neg (by omega)]
  · have : B * (q + 1) ≤ B * p := Nat.mul_le_mul_left _ h
    rw [Nat.mul_add] at this
    rw [if_neg (by omega), if_neg (by split <;> omega)]
theorem sub_div_bow (X Y : Nat) {B : Nat} (h : 0 < B) (hle : Y ≤ X) : (X - Y) / B = X / B - Y / B - bow X Y B := by
  have hx := Nat.mod_lt X h
  have hy := Nat.mod_lt Y h
  have ex := Nat.mod_add_div X B
  have ey := Nat.mod_add_div Y B
  unfold bow
  generalize X % B = a at *
  generalize Y % B = b at *
  generalize X / B = p at *
  generalize Y / B = q at *
  have hpq : q ≤ p := by
    apply Nat.le_of_not_lt
    intro hlt
    have : B * (p + 1) ≤ B * q := Nat.mul_le_mul_left _ hlt
    rw [Nat.mul_add] at this
    omega
  have em : B * p = B * q + B * (p - q) := by rw [← Nat.mul_add]; congr 1; omega
  by_cases hab : a < b
  · rw [if_pos hab]
    have h1 : 1 ≤ p - q := by
      apply Nat.one_le_iff_ne_zero.2
      intro h0
      rw [h0] at em
      omega
    have em2 : B * (p - q) = B * (p - q - 1) + B := by rw [← Nat.mul_succ]; congr 1; omega
    rw [show X - Y = (a + B - b) + B * (p - q - 1) by omega, Nat.add_mul_div_left _ _ h, Nat.div_eq_of_lt (by omega)]
    omega
  · rw [if_neg hab]
    rw [show X - Y = (a - b) + B * (p - q) by omega, Nat.add_mul_div_left _ _ h, Nat.div_eq_of_lt (by omega)]
    omega
/-- What a difference is, wrapped round n words. -/
theorem wd_sub (X Y n i : Nat) (hi : i < n) (hY : Y < 2 ^ (64 * n)) : wd (X + 2 ^ (64 * n) - Y) i = (wd X i + 2 ^ 64 - wd Y i - bow X Y (2 ^ (64 * i))) % 2 ^ 64 := by
  have hp : 0 < 2 ^ (64 * i) := Nat.two_pow_pos _
  obtain ⟨d, rfl⟩ : ∃ d, n = i + 1 + d := ⟨n - (i + 1), by omega⟩
  have e : (2 : Nat) ^ (64 * (i + 1 + d)) = 2 ^ (64 * i) * (2 ^ 64 * 2 ^ (64 * d)) := by rw [show 64 * (i + 1 + d) = 64 * i + (64 + 64 * d) by omega, Nat.pow_add, Nat.pow_add]
  have hb : bow (X + 2 ^ (64 * (i + 1 + d))) Y (2 ^ (64 * i)) = bow X Y (2 ^ (64 * i)) := by
    unfold bow
    rw [e, Nat.add_mul_mod_self_left]
  have hd : (X + 2 ^ (64 * (i + 1 + d))) / 2 ^ (64 * i) = X / 2 ^ (64 * i) + 2 ^ 64 * 2 ^ (64 * d) := by
    rw [e, Nat.add_mul_div_left _ _ hp]
  have hyq : Y / 2 ^ (64 * i) < 2 ^ 64 * 2 ^ (64 * d) := by
    apply Nat.div_lt_of_lt_mul
    rw [← e]
    exact hY
  have hbl := bow_le X Y (2 ^ (64 * i))
  unfold wd
  rw [sub_div_bow _ _ hp (by omega), hd, hb]
  generalize X / 2 ^ (64 * i) = p at *
  generalize Y / 2 ^ (64 * i) = q at *
  generalize bow X Y (2 ^ (64 * i)) = c at *
  generalize 2 ^ (64 * d) = T at *
  omega
theorem bow_bit (X Y i : Nat) : decide (bow X Y (2 ^ (i + 1)) = 1) = (!X.testBit i && Y.testBit i || !X.testBit i && decide (bow X Y (2 ^ i) = 1) || Y.testBit i && decide (bow X Y (2 ^ i) = 1)) := by
  have hx := Nat.mod_lt X (Nat.two_pow_pos i)
  have hy := Nat.mod_lt Y (Nat.two_pow_pos i)
  unfold bow
  rw [mod_bit, mod_bit]
  by_cases hab : X % 2 ^ i < Y % 2 ^ i
  · cases X.testBit i <;> cases Y.testBit i <;> simp [hab] <;> omega
  · cases X.testBit i <;> cases Y.testBit i <;> simp [hab] <;> omega
theorem bit_sub (X Y n i : Nat) (hi : i < n) (hY : Y < 2 ^ n) : (X + 2 ^ n - Y).testBit i = ((X.testBit i != Y.testBit i) != decide (bow X Y (2 ^ i) = 1)) := by
  have hp : 0 < 2 ^ i := Nat.two_pow_pos _
  obtain ⟨d, rfl⟩ : ∃ d, n = i + 1 + d := ⟨n - (i + 1), by omega⟩
  have e : (2 : Nat) ^ (i + 1 + d) = 2 ^ i * (2 * 2 ^ d) := by rw [show i + 1 + d = i + (1 + d) by omega, Nat.pow_add, Nat.pow_add]
  have hb : bow (X + 2 ^ (i + 1 + d)) Y (2 ^ i) = bow X Y (2 ^ i) := by
    unfold bow
    rw [e, Nat.add_mul_mod_self_left]
  have hd : (X + 2 ^ (i + 1 + d)) / 2 ^ i = X / 2 ^ i + 2 * 2 ^ d := by rw [e, Nat.add_mul_div_left _ _ hp]
  have hyq : Y / 2 ^ i < 2 * 2 ^ d := by
    apply Nat.div_lt_of_lt_mul
    rw [← e]
    exact hY
  have hbl := bow_le X Y (2 ^ i)
  have h1 := two_digit 0 X i
  have h2 := two_digit 0 Y i
  have h3 := two_digit 0 (X + 2 ^ (i + 1 + d) - Y) i
  rw [sub_div_bow _ _ hp (by omega), hd, hb] at h3
  generalize X / 2 ^ i = p at *
  generalize Y / 2 ^ i = q at *
  generalize bow X Y (2 ^ i) = c at *
  generalize 2 ^ d = T at *
  have h5 : (p + 2 * T - q - c) % 2 = (p % 2 + q % 2 + c) % 2 := by omega
  rw [h5, h1, h2] at h3
  have : c = 0 ∨ c = 1 := by omega
  rcases this with h | h <;> rw [h] at h3 ⊢ <;> revert h3 <;> cases X.testBit i <;> cases Y.testBit i <;> cases (X + 2 ^ (i + 1 + d) - Y).testBit i <;> simp

/-! ### Bits that are laid into words -/
def bitsOf (N n : Nat) : List Bool := (List.range n).map N.testBit
theorem bitsOf_length (N n : Nat) : (bitsOf N n).length = n := by simp [bitsOf]
theorem bitsOf_getD (N n i : Nat) (h : i < n) : (bitsOf N n).getD i false = N.testBit i := by
  simp [bitsOf, List.getD_eq_getElem?_getD, List.getElem?_map, List.getElem?_range h]
theorem bitsOf_ext {N M n : Nat} (h : ∀ i, i < n → N.testBit i = M.testBit i) : bitsOf N n = bitsOf M n := by
  unfold bitsOf
  exact List.map_congr_left fun i hi => h i (by simpa using hi)
/-- A word with one more bit. -/
theorem lay_set (N n i : Nat) (hi : i / 64 < n) : (lay N n).set (i / 64) ((wd N (i / 64) ||| 2 ^ (i % 64) : Nat) : Int) = lay (N ||| 2 ^ i) n := by
  apply List.ext_getElem?
  intro k
  by_cases e : i / 64 = k
  · subst e
    rw [List.getElem?_set_self (by rw [lay_length]; exact hi)]
    simp only [lay, List.getElem?_map, List.getElem?_range hi, Option.map_some]
    congr 2
    apply Nat.eq_of_testBit_eq
    intro j
    rw [wd_testBit, Nat.testBit_or, Nat.testBit_or, wd_testBit, Nat.testBit_two_pow, Nat.testBit_two_pow]
    by_cases hj : j < 64
    · by_cases hij : i % 64 = j
      · have : i = 64 * (i / 64) + j := by omega
        simp [hj, hij, ← this]
      · have : i ≠ 64 * (i / 64) + j := by omega
        simp [hj, hij, this]
    · have : i % 64 ≠ j := by omega
      simp [hj, this]
  · rw [List.getElem?_set_ne e]
    by_cases hk : k < n
    · simp only [lay, List.getElem?_map, List.getElem?_range hk, Option.map_some]
      congr 2
      apply wd_eq
      intro j hj
      rw [Nat.testBit_or, Nat.testBit_two_pow]
      have : i ≠ 64 * k + j := by omega
      simp [this]
    · rw [List.getElem?_eq_none (by rw [lay_length]; omega), List.getElem?_eq_none (by rw [lay_length]; omega)]
theorem mod_succ_or {N i : Nat} (h : N.testBit i = true) : N % 2 ^ (i + 1) = N % 2 ^ i ||| 2 ^ i := by
  apply Nat.eq_of_testBit_eq
  intro j
  rw [Nat.testBit_mod_two_pow, Nat.testBit_or, Nat.testBit_mod_two_pow, Nat.testBit_two_pow]
  by_cases e : i = j
  · subst e
    simp [h]
  · by_cases hj : j < i
    · simp [hj, e, Nat.lt_succ_of_lt hj]
    · have : ¬ j < i + 1 := by omega
      simp [hj, e, this]
theorem mod_succ_no {N i : Nat} (h : N.testBit i = false) : N % 2 ^ (i + 1) = N % 2 ^ i := by
  apply Nat.eq_of_testBit_eq
  intro j
  rw [Nat.testBit_mod_two_pow, Nat.testBit_mod_two_pow]
  by_cases e : i = j
  · subst e
    simp [h]
  · by_cases hj : j < i
    · simp [hj, Nat.lt_succ_of_lt hj]
    · have : ¬ j < i + 1 := by omega
      simp [hj, this]
/-- How many bits below a width are 1. -/
def cnt (N : Nat) : Nat → Nat
  | 0 => 0
  | w + 1 => cnt N w + (N.testBit w).toNat
theorem cnt_le (N : Nat) : ∀ w, cnt N w ≤ w
  | 0 => Nat.le_refl _
  | w + 1 => by
    have := cnt_le N w
    have : (N.testBit w).toNat ≤ 1 := by cases N.testBit w <;> simp
    simp only [cnt]
    omega
theorem cnt_congr {N M : Nat} : ∀ w, (∀ i, i < w → N.testBit i = M.testBit i) → cnt N w = cnt M w
  | 0, _ => rfl
  | w + 1, h => by
    simp only [cnt]
    rw [cnt_congr w fun i hi => h i (by omega), h w (by omega)]
theorem cnt_add (N a : Nat) : ∀ b, cnt N (a + b) = cnt N a + cnt (N / 2 ^ a) b
  | 0 => rfl
  | b + 1 => by
    rw [← Nat.add_assoc]
    simp only [cnt]
    rw [cnt_add N a b, Nat.testBit_div_two_pow, Nat.add_comm b a, Nat.add_assoc]
theorem cnt_more (N w : Nat) : ∀ v, (∀ i, w ≤ i → i < w + v → N.testBit i = false) → cnt N (w + v) = cnt N w
  | 0, _ => rfl
  | v + 1, h => by
    rw [← Nat.add_assoc]
    simp only [cnt]
    rw [cnt_more N w v fun i h1 h2 => h i h1 (by omega), h (w + v) (by omega) (by omega)]
    rfl
theorem cnt_not (N M : Nat) : ∀ w, (∀ i, i < w → M.testBit i = !N.testBit i) → cnt N w + cnt M w = w
  | 0, _ => rfl
  | w + 1, h => by
    have h1 := cnt_not N M w fun i hi => h i (by omega)
    have h2 := h w (by omega)
    simp only [cnt]
    rw [h2]
    cases N.testBit w <;> simp <;> omega
end Go.Proofs.Ytbbbcdfagmcfgaa.VecMath
