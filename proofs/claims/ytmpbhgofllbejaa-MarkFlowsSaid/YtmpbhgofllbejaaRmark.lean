/- MarkFlows: the law's contract. -/
import Derived.Test.YtmpbhgofllbejaaLa
import Derived.Test.YtmpbhgofllbejaaWd
set_option linter.unusedVariables false
set_option linter.unusedSimpArgs false
set_option linter.unusedVariables false
namespace Go.Ax
open Go Go.Proofs
set_option maxRecDepth 100000
theorem posI_of {l : List api_Pos} (h : ∀ y ∈ l, api_Pos.ok y) : PosI l := fun i hi => by
  rw [rd_get l hi]
  exact (h _ (List.getElem_mem _)).2.2
theorem markFlows_spec {l : List api_Pos} (inst old now : Int) (hl : l.length < 281474976710656) (h : ∀ y ∈ l, api_Pos.ok y) :
    FSpec Try.prog 3 [(false, [.l (rowsD api_Pos.D l)]), (false, [.v (.int .i64 inst)]), (false, [.v (.int .i64 old)]), (false, [.v (.int .i64 now)])] [.one (.d (.v (.bool true)))] :=
  novationlaw15_MarkFlows.spec (markFlows_true inst old now hl (posI_of h))
end Go.Ax
