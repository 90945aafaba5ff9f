/- StockPosts: the law's contract. -/
import Derived.Test.YtmpbhgofllbejaaLa
import Derived.Test.YtmpbhgofllbejaaWb
set_option linter.unusedVariables false
set_option linter.unusedSimpArgs false
set_option linter.unusedVariables false
namespace Go.Ax
open Go Go.Proofs
set_option maxRecDepth 100000
theorem stockPosts_spec {l : List api_Pos} (h : ∀ y ∈ l, api_Pos.ok y) {e : List api_Shift} (he : ∀ y ∈ e, api_Shift.ok y) :
    FSpec Try.prog 10 [(false, [.l (rowsD api_Pos.D l)]), (false, [.l (rowsD api_Shift.D e)])] [.one (.d (.v (.bool true)))] :=
  novationlaw13_StockPosts.spec (stockPosts_true (fun i hi => by rw [rd_get l hi]; exact (h _ (List.getElem_mem _)).2.2) (fun y hy => (he y hy).2.2))
end Go.Ax
