/- What bytes are searched by, cloned to; the digits of a number. (For seats without a table in memory.) -/
import Derived.Lib.ItoaNum
import Derived.Test.YtjidbphhcekelaaGreatAeB
namespace Go.Proofs.YtjidbphhcekelaaGreat.BytesX
open Go Go.RowKit Go.Lib Go.Proofs.YtjidbphhcekelaaGreat.AE
set_option linter.unusedVariables false
set_option linter.unusedSimpArgs false
def idxB : List Int → Int → Int
  | [], _ => -1
  | x :: l, c => if x == c then 0 else if idxB l c == -1 then -1 else idxB l c + 1
def indexB (x : List Int × Int) : Option Int := if (x.1.all fun y => decide (0 ≤ y ∧ y < 256)) && decide (0 ≤ x.2 ∧ x.2 < 256) then some (idxB x.1 x.2) else none
def cloneB (l : List Int) : Option (List Int) := if l.length ≤ 70368744177664 then some l else none
/-! The digits of a number. -/
def digB : Nat → Nat → List Int
  | 0, _ => []
  | f + 1, u => if u < 10 then [((48 + u : Nat) : Int)] else digB f (u / 10) ++ [((48 + u % 10 : Nat) : Int)]
end Go.Proofs.YtjidbphhcekelaaGreat.BytesX
