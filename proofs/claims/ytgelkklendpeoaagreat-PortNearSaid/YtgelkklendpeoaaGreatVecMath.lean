import Derived.RowKit
import Derived.Test.YtgelkklendpeoaaGreatWK
namespace Go.Proofs.YtgelkklendpeoaaGreat.VecMath
open Go.RowKit
/-! What the table's texts need of VecMath (a small one, laid over it: a claim has at most 1,500,000 bytes). -/
theorem wrap64_id {n : Int} (h0 : -9223372036854775808 ≤ n) (h1 : n < 9223372036854775808) : wrap64 n = n := by
  unfold wrap64
  omega
end Go.Proofs.YtgelkklendpeoaaGreat.VecMath
