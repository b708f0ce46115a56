import Derived.Laws.Externs
import Derived.Lib.SliceRun
namespace Go.Proofs.YtgelkklendpeoaaGreat.XBits
open Go

/-- What math/bits.Add64 and Sub64 tell: the sum, the carry; the difference, the borrow. -/
def add64s (x y c : Int) : Int := (((x.toNat + y.toNat + c.toNat) % 18446744073709551616 : Nat) : Int)
def add64c (x y c : Int) : Int := (((x.toNat + y.toNat + c.toNat) / 18446744073709551616 : Nat) : Int)
def sub64s (x y c : Int) : Int := (((x.toNat + 18446744073709551616 - y.toNat - c.toNat) % 18446744073709551616 : Nat) : Int)
def sub64c (x y c : Int) : Int := if x.toNat < y.toNat + c.toNat then 1 else 0

def add64E : Array Value → Sem Value := fun args => do
  let (x, y, c) ← Extern.MathBitsCarry.three "Add64" args
  pure (Extern.MathBitsCarry.pair ((x + y + c) % Extern.MathBitsCarry.m64) ((x + y + c) / Extern.MathBitsCarry.m64))
def sub64E : Array Value → Sem Value := fun args => do
  let (x, y, b) ← Extern.MathBitsCarry.three "Sub64" args
  pure (Extern.MathBitsCarry.pair ((x + Extern.MathBitsCarry.m64 - y - b) % Extern.MathBitsCarry.m64) (if x < y + b then 1 else 0))

theorem carry3 {c : Int} (h : c ≤ 1) : c = 0 ∨ c = 1 ∨ ∃ n, c = Int.negSucc n := by
  cases c with
  | ofNat n =>
    have : n = 0 ∨ n = 1 := by
      have h1 : (n : Int) ≤ 1 := h
      omega
    rcases this with rfl | rfl
    · exact .inl rfl
    · exact .inr (.inl rfl)
  | negSucc n => exact .inr (.inr ⟨n, rfl⟩)
theorem add64E_run {P : Program} (x y c : Int) (h : c ≤ 1) (w : World) :
    (add64E #[.int .u64 x, .int .u64 y, .int .u64 c]).run P w = .ok (.tuple #[.int .u64 (add64s x y c), .int .u64 (add64c x y c)]) w := by
  rcases carry3 h with rfl | rfl | ⟨n, rfl⟩ <;> rfl
theorem sub64E_run {P : Program} (x y c : Int) (h : c ≤ 1) (w : World) :
    (sub64E #[.int .u64 x, .int .u64 y, .int .u64 c]).run P w = .ok (.tuple #[.int .u64 (sub64s x y c), .int .u64 (sub64c x y c)]) w := by
  have e : ∀ k : Nat, (if x.toNat < y.toNat + k then (1 : Int) else 0) = ((if x.toNat < y.toNat + k then 1 else 0 : Nat) : Int) := fun k => by split <;> rfl
  unfold sub64c
  rw [e]
  rcases carry3 h with rfl | rfl | ⟨n, rfl⟩ <;> rfl
theorem eql_some_nil {P : Program} (w : World) {t e : TypeId} (a : Addr) (n c : Nat) (h : P.underlying t = some (.slice e)) : (binOp .eql t (.slice (some a) n c) (.slice none 0 0)).run P w = .ok (.bool false) w := Lib.run_eql_slice_nil w t e (some a) n c 0 0 h
theorem eql_none_nil {P : Program} (w : World) {t e : TypeId} (n c : Nat) (h : P.underlying t = some (.slice e)) : (binOp .eql t (.slice none n c) (.slice none 0 0)).run P w = .ok (.bool true) w := Lib.run_eql_slice_nil w t e none n c 0 0 h
end Go.Proofs.YtgelkklendpeoaaGreat.XBits
