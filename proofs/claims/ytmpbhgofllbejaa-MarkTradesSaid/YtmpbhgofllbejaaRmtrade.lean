/- MarkTrades: the law's contract. -/
import Derived.Test.YtmpbhgofllbejaaLa
import Derived.Test.YtmpbhgofllbejaaWd
set_option linter.unusedVariables false
set_option linter.unusedSimpArgs false
set_option linter.unusedVariables false
namespace Go.Ax
open Go Go.Proofs
set_option maxRecDepth 100000
theorem markTrades_spec (t : api_Trade) (p : Int) {l : List Int} (hl : ∀ y ∈ l, 0 ≤ y ∧ y < 18446744073709551616) :
    FSpec Try.prog 5 [(true, api_Trade.D t), (false, [.v (.int .i64 p)]), (false, [.l (rowsD u64D l)])] [.one (.d (.v (.bool true)))] :=
  novationlaw15_MarkTrades.spec (markTrades_true t hl)
end Go.Ax
