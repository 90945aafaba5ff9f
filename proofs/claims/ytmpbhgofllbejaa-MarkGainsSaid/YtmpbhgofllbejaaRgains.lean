/- MarkGains: the law's contract. -/
import Derived.Test.YtmpbhgofllbejaaLa
import Derived.Test.YtmpbhgofllbejaaWe
set_option linter.unusedVariables false
set_option linter.unusedSimpArgs false
set_option linter.unusedVariables false
namespace Go.Ax
open Go Go.Proofs
set_option maxRecDepth 100000
theorem markGains_spec {g : List api_Gain} {e : List api_Entry} (hg : ∀ y ∈ g, api_Gain.ok y) (he : ∀ y ∈ e, api_Entry.ok y) :
    FSpec Try.prog 4 [(false, [.l (rowsD api_Gain.D g)]), (false, [.l (rowsD api_Entry.D e)])] [.one (.d (.v (.bool true)))] :=
  novationlaw15_MarkGains.spec (markGains_true (fun i hi => by rw [rd_get g hi]; exact (hg _ (List.getElem_mem _)).2) (fun i hi => by rw [rd_get e hi]; exact (he _ (List.getElem_mem _)).2.2))
end Go.Ax
