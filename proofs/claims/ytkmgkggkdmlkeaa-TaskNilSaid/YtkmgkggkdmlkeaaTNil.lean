/- The walk of the law TaskNil, the four cases joined. -/
import Derived.Test.YtkmgkggkdmlkeaaTNa
import Derived.Test.YtkmgkggkdmlkeaaTNb
import Derived.Test.YtkmgkggkdmlkeaaTNc
import Derived.Test.YtkmgkggkdmlkeaaTNd
namespace Go.Proofs.Ytkmgkggkdmlkeaa
open Go.RowKit

theorem walk_TaskNil (a00 a01 a1 : Int) (w : World) (_f00 : (Lit.int .i64 a00).wf = true) (_f01 : (Lit.int .i64 a01).wf = true) (_f1 : (Lit.int .i64 a1).wf = true) :
    Calls Try.prog 8 #[.agg #[.int .i64 a00, .int .i64 a01], .int .i64 a1] w fun e w' => e = .returned (.bool true) ∧ Below w.heap.size w w' := by
  cases hm : may a00 a01 with
  | false => exact tnil_a a00 a01 a1 w hm
  | true =>
    by_cases h0 : a1 < 0
    · exact tnil_b a00 a01 a1 w hm h0
    · by_cases h1 : a1 ≤ 1099511627776
      · exact tnil_d a00 a01 a1 w hm (by omega) h1
      · exact tnil_c a00 a01 a1 w hm (by omega) (by omega)
end Go.Proofs.Ytkmgkggkdmlkeaa
