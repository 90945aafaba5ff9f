/- StockAll: the law's contract. -/
import Derived.Test.YtmpbhgofllbejaaLa
import Derived.Test.YtmpbhgofllbejaaWc
set_option linter.unusedVariables false
set_option linter.unusedSimpArgs false
set_option linter.unusedVariables false
namespace Go.Ax
open Go Go.Proofs
set_option maxRecDepth 100000
theorem stockAll_spec {l : List api_Pos} (hl : l.length < 281474976710656) (h : ∀ y ∈ l, api_Pos.ok y) (acc to inst : Int) :
    FSpec Try.prog 9 [(false, [.l (rowsD api_Pos.D l)]), (false, [.v (.int .i64 acc)]), (false, [.v (.int .i64 to)]), (false, [.v (.int .i64 inst)])] [.one (.d (.v (.bool true)))] :=
  novationlaw13_StockAll.spec (stockAll_true hl (fun i hi => by rw [rd_get l hi]; exact (h _ (List.getElem_mem _)).2.2) acc to inst)
end Go.Ax
