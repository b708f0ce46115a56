import Derived.Test.YtahfckadomemiaaVecMath
namespace Go.Proofs.Ytahfckadomemiaa.VecPop
open Go.RowKit Go.Proofs.Ytahfckadomemiaa.VecMath

/-! How many bits of a word are 1, as math/bits reckons it: byte by byte. -/
def ob : List Nat → Nat
  | [] => 0
  | b :: bs => b + 256 * ob bs
def bytes : Nat → Nat → List Nat
  | 0, _ => []
  | n + 1, N => N % 256 :: bytes n (N / 256)
theorem bytes_lt : ∀ n N, ∀ b ∈ bytes n N, b < 256
  | 0, _, b, h => by simp [bytes] at h
  | n + 1, N, b, h => by
    simp only [bytes, List.mem_cons] at h
    rcases h with rfl | h
    · exact Nat.mod_lt _ (by decide)
    · exact bytes_lt n _ b h
theorem ob_bytes : ∀ n N, N < 256 ^ n → ob (bytes n N) = N
  | 0, N, h => by simp [bytes, ob] at *; omega
  | n + 1, N, h => by
    simp only [bytes, ob]
    rw [ob_bytes n (N / 256) (by rw [Nat.pow_succ] at h; exact Nat.div_lt_of_lt_mul (by rw [Nat.mul_comm]; exact h))]
    omega
theorem bytes_length : ∀ n N, (bytes n N).length = n
  | 0, _ => rfl
  | n + 1, N => by simp [bytes, bytes_length n]
theorem and_ob {b m : Nat} (X M : Nat) (hb : b < 256) (hm : m < 256) : (b + 256 * X) &&& (m + 256 * M) = (b &&& m) + 256 * (X &&& M) := by
  apply Nat.eq_of_testBit_eq
  intro j
  have e1 : b + 256 * X = 2 ^ 8 * X + b := by omega
  have e2 : m + 256 * M = 2 ^ 8 * M + m := by omega
  have e3 : (b &&& m) + 256 * (X &&& M) = 2 ^ 8 * (X &&& M) + (b &&& m) := by omega
  have hbm : b &&& m < 2 ^ 8 := Nat.and_lt_two_pow _ hm
  rw [e1, e2, e3, Nat.testBit_and, Nat.testBit_two_pow_mul_add _ hb, Nat.testBit_two_pow_mul_add _ hm, Nat.testBit_two_pow_mul_add _ hbm]
  by_cases hj : j < 8 <;> simp [hj]
def f1 (b : Nat) : Nat := ((b / 2) &&& 85) + (b &&& 85)
def f2 (b : Nat) : Nat := ((b / 4) &&& 51) + (b &&& 51)
def f3 (b : Nat) : Nat := (b / 16 + b) &&& 15
def mask (m : Nat) : Nat → Nat
  | 0 => 0
  | n + 1 => m + 256 * mask m n
theorem half_ (b e : Nat) (hb : b < 256) (he : e < 2) : (b / 2 + 128 * e) &&& 85 = (b / 2) &&& 85 := by
  have : ∀ b, b < 256 → ∀ e, e < 2 → (b / 2 + 128 * e) &&& 85 = (b / 2) &&& 85 := by decide +kernel
  exact this b hb e he
theorem quart_ (b e : Nat) (hb : b < 256) (he : e < 4) : (b / 4 + 64 * e) &&& 51 = (b / 4) &&& 51 := by
  have : ∀ b, b < 256 → ∀ e, e < 4 → (b / 4 + 64 * e) &&& 51 = (b / 4) &&& 51 := by decide +kernel
  exact this b hb e he
theorem f1_lt (b : Nat) (hb : b < 256) : f1 b < 256 := by
  have : ∀ b, b < 256 → f1 b < 256 := by decide +kernel
  exact this b hb
theorem f21_ok (b : Nat) (hb : b < 256) : f2 (f1 b) < 256 ∧ f2 (f1 b) / 16 ≤ 4 ∧ f2 (f1 b) % 16 ≤ 4 := by
  have : ∀ b, b < 256 → f2 (f1 b) < 256 ∧ f2 (f1 b) / 16 ≤ 4 ∧ f2 (f1 b) % 16 ≤ 4 := by decide +kernel
  exact this b hb
theorem f321 (b : Nat) (hb : b < 256) : f3 (f2 (f1 b)) = cnt b 8 ∧ f3 (f2 (f1 b)) ≤ 8 := by
  have : ∀ b, b < 256 → f3 (f2 (f1 b)) = cnt b 8 ∧ f3 (f2 (f1 b)) ≤ 8 := by decide +kernel
  exact this b hb
theorem s1_ob : ∀ bs : List Nat, (∀ b ∈ bs, b < 256) → ((ob bs / 2) &&& mask 85 bs.length) + (ob bs &&& mask 85 bs.length) = ob (bs.map f1)
  | [], _ => rfl
  | b :: bs, h => by
    have hb := h b (by simp)
    have ih := s1_ob bs fun x hx => h x (by simp [hx])
    simp only [ob, mask, List.length_cons, List.map_cons]
    rw [show (b + 256 * ob bs) / 2 = (b / 2 + 128 * (ob bs % 2)) + 256 * (ob bs / 2) by omega, and_ob _ _ (by omega) (by decide), and_ob _ _ hb (by decide), half_ b _ hb (by omega), ← ih]
    unfold f1
    omega
theorem s2_ob : ∀ bs : List Nat, (∀ b ∈ bs, b < 256) → ((ob bs / 4) &&& mask 51 bs.length) + (ob bs &&& mask 51 bs.length) = ob (bs.map f2)
  | [], _ => rfl
  | b :: bs, h => by
    have hb := h b (by simp)
    have ih := s2_ob bs fun x hx => h x (by simp [hx])
    simp only [ob, mask, List.length_cons, List.map_cons]
    rw [show (b + 256 * ob bs) / 4 = (b / 4 + 64 * (ob bs % 4)) + 256 * (ob bs / 4) by omega, and_ob _ _ (by omega) (by decide), and_ob _ _ hb (by decide), quart_ b _ hb (by omega), ← ih]
    unfold f2
    omega
theorem ob_pow : ∀ bs : List Nat, (∀ b ∈ bs, b < 256) → ∀ n, bs.length ≤ n → ob bs < 2 ^ (8 * n)
  | [], _, n, _ => by simp [ob]; exact Nat.two_pow_pos _
  | b :: bs, h, 0, hn => by simp at hn
  | b :: bs, h, n + 1, hn => by
    have hb := h b (by simp)
    have ih := ob_pow bs (fun x hx => h x (by simp [hx])) n (by simpa using hn)
    rw [show 8 * (n + 1) = 8 * n + 8 by omega, Nat.pow_add]
    simp only [ob]
    generalize ob bs = X at *
    generalize 2 ^ (8 * n) = Y at *
    omega
theorem ob_pow5 (bs : List Nat) (h : ∀ b ∈ bs, b < 256 ∧ b / 16 ≤ 4 ∧ b % 16 ≤ 4) (n : Nat) (hn : bs.length = n) : ob bs < 2 ^ (8 * n - 1) := by
  subst hn
  induction bs with
  | nil => simp [ob]
  | cons b bs ih =>
    have hb := h b (by simp)
    cases bs with
    | nil => simp only [ob, List.length_cons, List.length_nil]; omega
    | cons c cs =>
      have ih := ih fun x hx => h x (by simp [hx])
      rw [List.length_cons, show 8 * ((c :: cs).length + 1) - 1 = (8 * (c :: cs).length - 1) + 8 by simp; omega, Nat.pow_add]
      rw [ob]
      generalize ob (c :: cs) = X at *
      generalize 2 ^ (8 * (c :: cs).length - 1) = Y at *
      omega
theorem ob_mod16 : ∀ bs : List Nat, (∀ b ∈ bs, b % 16 ≤ 4) → ob bs % 16 ≤ 4
  | [], _ => by simp [ob]
  | b :: bs, h => by
    have := h b (by simp)
    simp only [ob]
    omega
theorem s3_ob : ∀ bs : List Nat, (∀ b ∈ bs, b < 256 ∧ b / 16 ≤ 4 ∧ b % 16 ≤ 4) → (ob bs / 16 + ob bs) &&& mask 15 bs.length = ob (bs.map f3)
  | [], _ => rfl
  | b :: bs, h => by
    have hb := h b (by simp)
    have ih := s3_ob bs fun x hx => h x (by simp [hx])
    have hm := ob_mod16 bs fun x hx => (h x (by simp [hx])).2.2
    simp only [ob, mask, List.length_cons, List.map_cons]
    rw [show (b + 256 * ob bs) / 16 + (b + 256 * ob bs) = (b / 16 + 16 * (ob bs % 16) + b) + 256 * (ob bs / 16 + ob bs) by omega, and_ob _ _ (by omega) (by decide), ih]
    congr 1
    unfold f3
    have e : ∀ x, x &&& 15 = x % 16 := fun x => Nat.and_two_pow_sub_one_eq_mod x 4
    rw [e, e]
    omega
def sum8 : List Nat → Nat
  | [] => 0
  | b :: bs => b + sum8 bs
theorem cnt_ob : ∀ bs : List Nat, (∀ b ∈ bs, b < 256) → cnt (ob bs) (8 * bs.length) = sum8 (bs.map fun b => cnt b 8)
  | [], _ => rfl
  | b :: bs, h => by
    have hb := h b (by simp)
    have ih := cnt_ob bs fun x hx => h x (by simp [hx])
    rw [List.length_cons, show 8 * (bs.length + 1) = 8 + 8 * bs.length by omega, cnt_add]
    simp only [ob, sum8, List.map_cons]
    rw [show (b + 256 * ob bs) / 2 ^ 8 = ob bs by omega, ih]
    congr 1
    apply cnt_congr
    intro i hi
    rw [show b + 256 * ob bs = 2 ^ 8 * ob bs + b by omega, Nat.testBit_two_pow_mul_add _ hb]
    simp [hi]
theorem ob_div {b : Nat} (bs : List Nat) (h : b < 256) : ob (b :: bs) / 256 = ob bs := by
  simp only [ob]
  generalize ob bs = X
  omega
theorem ob_lt {b B : Nat} (bs : List Nat) (h : b < 256) (hB : ob bs < B) : ob (b :: bs) < 256 * B := by
  simp only [ob]
  generalize ob bs = X at *
  omega
theorem ob_mod128 (b : Nat) (bs : List Nat) (h : b < 128) : ob (b :: bs) % 128 = b := by
  simp only [ob]
  generalize ob bs = X
  omega
theorem fold8 (c0 c1 c2 c3 c4 c5 c6 c7 : Nat) (h0 : c0 ≤ 8) (h1 : c1 ≤ 8) (h2 : c2 ≤ 8) (h3 : c3 ≤ 8) (h4 : c4 ≤ 8) (h5 : c5 ≤ 8) (h6 : c6 ≤ 8) (h7 : c7 ≤ 8) (x : Nat) (hx : x = ob [c0, c1, c2, c3, c4, c5, c6, c7]) :
    ∃ y z u, x + x / 256 = y ∧ y + y / 65536 = z ∧ z + z / 4294967296 = u ∧ x < 2 ^ 60 ∧ y < 2 ^ 61 ∧ z < 2 ^ 62 ∧ u < 2 ^ 63 ∧ u % 128 = c0 + (c1 + (c2 + (c3 + (c4 + (c5 + (c6 + (c7 + 0))))))) := by
  have ex : x / 256 = ob [c1, c2, c3, c4, c5, c6, c7] := by rw [hx, ob_div _ (by omega)]
  have ey : x + x / 256 = ob [c0 + c1, c1 + c2, c2 + c3, c3 + c4, c4 + c5, c5 + c6, c6 + c7, c7] := by
    rw [ex, hx]
    simp only [ob]
    omega
  have ey2 : ∀ y, y = x + x / 256 → y / 65536 = ob [c2 + c3, c3 + c4, c4 + c5, c5 + c6, c6 + c7, c7] := by
    intro y hy
    rw [hy, ey, show 65536 = 256 * 256 from rfl, ← Nat.div_div_eq_div_mul, ob_div _ (by omega), ob_div _ (by omega)]
  have ez : ∀ y, y = x + x / 256 → y + y / 65536 = ob [c0 + c1 + (c2 + c3), c1 + c2 + (c3 + c4), c2 + c3 + (c4 + c5), c3 + c4 + (c5 + c6), c4 + c5 + (c6 + c7), c5 + c6 + c7, c6 + c7, c7] := by
    intro y hy
    rw [ey2 y hy, hy, ey]
    simp only [ob]
    omega
  have ez2 : ∀ z, z = ob [c0 + c1 + (c2 + c3), c1 + c2 + (c3 + c4), c2 + c3 + (c4 + c5), c3 + c4 + (c5 + c6), c4 + c5 + (c6 + c7), c5 + c6 + c7, c6 + c7, c7] → z / 4294967296 = ob [c4 + c5 + (c6 + c7), c5 + c6 + c7, c6 + c7, c7] := by
    intro z hz
    rw [hz, show 4294967296 = 256 * 256 * 256 * 256 from rfl, ← Nat.div_div_eq_div_mul, ← Nat.div_div_eq_div_mul, ← Nat.div_div_eq_div_mul, ob_div _ (by omega), ob_div _ (by omega), ob_div _ (by omega), ob_div _ (by omega)]
  have eu : ∀ z, z = ob [c0 + c1 + (c2 + c3), c1 + c2 + (c3 + c4), c2 + c3 + (c4 + c5), c3 + c4 + (c5 + c6), c4 + c5 + (c6 + c7), c5 + c6 + c7, c6 + c7, c7] → z + z / 4294967296 = ob [c0 + c1 + (c2 + c3) + (c4 + c5 + (c6 + c7)), c1 + c2 + (c3 + c4) + (c5 + c6 + c7), c2 + c3 + (c4 + c5) + (c6 + c7), c3 + c4 + (c5 + c6) + c7, c4 + c5 + (c6 + c7), c5 + c6 + c7, c6 + c7, c7] := by
    intro z hz
    rw [ez2 z hz, hz]
    simp only [ob]
    omega
  refine ⟨_, _, _, rfl, rfl, rfl, ?_, ?_, ?_, ?_, ?_⟩
  · rw [hx]
    simp only [ob]
    omega
  · rw [ey]
    simp only [ob]
    omega
  · rw [ez _ rfl]
    simp only [ob]
    omega
  · rw [eu _ (ez _ rfl)]
    simp only [ob]
    omega
  · rw [eu _ (ez _ rfl), ob_mod128 _ _ (by omega)]
    omega
/-- What the steps come to, over plain numbers. -/
theorem pop (x : Nat) (hx : x < 2 ^ 64) :
    ∃ y z v p q u, ((x / 2) &&& 6148914691236517205) + (x &&& 6148914691236517205) = y ∧ y < 2 ^ 64 ∧
    ((y / 4) &&& 3689348814741910323) + (y &&& 3689348814741910323) = z ∧ z < 2 ^ 63 ∧
    (z / 16 + z) &&& 1085102592571150095 = v ∧ v + v / 256 = p ∧ p + p / 65536 = q ∧ q + q / 4294967296 = u ∧ v < 2 ^ 60 ∧ p < 2 ^ 61 ∧ q < 2 ^ 62 ∧ u < 2 ^ 63 ∧ u % 128 = cnt x 64 := by
  have hb := bytes_lt 8 x
  have hl := bytes_length 8 x
  have ho := ob_bytes 8 x (by rw [show (256 : Nat) ^ 8 = 2 ^ 64 from by decide]; exact hx)
  generalize bytes 8 x = bs at *
  clear hx
  have m1 : mask 85 8 = 6148914691236517205 := by decide
  have m2 : mask 51 8 = 3689348814741910323 := by decide
  have m3 : mask 15 8 = 1085102592571150095 := by decide
  have q1 := s1_ob bs hb
  rw [hl, m1, ho] at q1
  have hb1 : ∀ b ∈ bs.map f1, b < 256 := by
    intro b h
    simp only [List.mem_map] at h
    obtain ⟨c, hc, rfl⟩ := h
    exact f1_lt c (hb c hc)
  have q2 := s2_ob (bs.map f1) hb1
  rw [List.length_map, hl, m2] at q2
  have hb2 : ∀ b ∈ (bs.map f1).map f2, b < 256 ∧ b / 16 ≤ 4 ∧ b % 16 ≤ 4 := by
    intro b h
    simp only [List.mem_map] at h
    obtain ⟨_, ⟨c, hc, rfl⟩, rfl⟩ := h
    exact f21_ok c (hb c hc)
  have q3 := s3_ob ((bs.map f1).map f2) hb2
  rw [List.length_map, List.length_map, hl, m3] at q3
  have q4 := cnt_ob bs hb
  rw [hl, ho, show 8 * 8 = 64 from rfl] at q4
  have hc : ∀ b ∈ bs, f3 (f2 (f1 b)) = cnt b 8 ∧ f3 (f2 (f1 b)) ≤ 8 := fun b h => f321 b (hb b h)
  have h1 : ob (bs.map f1) < 2 ^ 64 := ob_pow _ hb1 8 (by rw [List.length_map, hl]; exact Nat.le_refl _)
  have h2 : ob ((bs.map f1).map f2) < 2 ^ 63 := by
    have := ob_pow5 _ (fun b h => (hb2 b h)) 8 (by rw [List.length_map, List.length_map, hl])
    exact this
  clear m1 m2 m3 hb hb1 hb2 ho
  have h3 : ∃ c0 c1 c2 c3 c4 c5 c6 c7, ((bs.map f1).map f2).map f3 = [c0, c1, c2, c3, c4, c5, c6, c7] ∧ c0 ≤ 8 ∧ c1 ≤ 8 ∧ c2 ≤ 8 ∧ c3 ≤ 8 ∧ c4 ≤ 8 ∧ c5 ≤ 8 ∧ c6 ≤ 8 ∧ c7 ≤ 8 ∧ sum8 (bs.map fun b => cnt b 8) = c0 + (c1 + (c2 + (c3 + (c4 + (c5 + (c6 + (c7 + 0))))))) := by
    clear q1 q2 q3 q4 h1 h2
    rcases bs with _ | ⟨b0, _ | ⟨b1, _ | ⟨b2, _ | ⟨b3, _ | ⟨b4, _ | ⟨b5, _ | ⟨b6, _ | ⟨b7, _ | ⟨b8, bs⟩⟩⟩⟩⟩⟩⟩⟩⟩ <;> first | (exfalso; simp at hl; done) | skip
    have a0 := hc b0 (by simp)
    have a1 := hc b1 (by simp)
    have a2 := hc b2 (by simp)
    have a3 := hc b3 (by simp)
    have a4 := hc b4 (by simp)
    have a5 := hc b5 (by simp)
    have a6 := hc b6 (by simp)
    have a7 := hc b7 (by simp)
    refine ⟨_, _, _, _, _, _, _, _, rfl, a0.2, a1.2, a2.2, a3.2, a4.2, a5.2, a6.2, a7.2, ?_⟩
    simp only [List.map_cons, List.map_nil, sum8]
    rw [a0.1, a1.1, a2.1, a3.1, a4.1, a5.1, a6.1, a7.1]
  obtain ⟨c0, c1, c2, c3, c4, c5, c6, c7, e, k0, k1, k2, k3, k4, k5, k6, k7, es⟩ := h3
  rw [e] at q3
  obtain ⟨p, q, u, r1, r2, r3, r4, r5, r6, r7, r8⟩ := fold8 c0 c1 c2 c3 c4 c5 c6 c7 k0 k1 k2 k3 k4 k5 k6 k7 _ rfl
  exact ⟨_, _, _, p, q, u, q1, h1, q2, h2, q3, r1, r2, r3, r4, r5, r6, r7, by rw [r8, q4, es]⟩
end Go.Proofs.Ytahfckadomemiaa.VecPop
