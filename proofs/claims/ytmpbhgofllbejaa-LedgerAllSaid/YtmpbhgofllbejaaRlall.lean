/- LedgerAll: the law's contract. -/
import Derived.Test.YtmpbhgofllbejaaLa
import Derived.Test.YtmpbhgofllbejaaWa
set_option linter.unusedVariables false
set_option linter.unusedSimpArgs false
set_option linter.unusedVariables false
namespace Go.Ax
open Go Go.Proofs
set_option maxRecDepth 100000
theorem ledgerAll_spec {l : List api_Row} (hl : l.length < 281474976710656) (h : ∀ y ∈ l, api_Row.ok y) (k n : Int) :
    FSpec Try.prog 7 [(false, [.l (rowsD api_Row.D l)]), (false, [.v (.int .i64 k)]), (false, [.v (.int .i64 n)])] [.one (.d (.v (.bool true)))] :=
  novationlaw12_LedgerAll.spec (ledgerAll_true hl (fun i hi => by rw [rd_get l hi]; exact (h _ (List.getElem_mem _)).2.2) k n)
end Go.Ax
