/- LedgerPosts: the law's contract. -/
import Derived.Test.YtmpbhgofllbejaaLa
import Derived.Test.YtmpbhgofllbejaaWb
set_option linter.unusedVariables false
set_option linter.unusedSimpArgs false
set_option linter.unusedVariables false
namespace Go.Ax
open Go Go.Proofs
set_option maxRecDepth 100000
theorem ledgerPosts_spec {l : List api_Row} (h : ∀ y ∈ l, api_Row.ok y) {e : List api_Entry} (he : ∀ y ∈ e, api_Entry.ok y) (a b : api_Row) {x : Int} (hx : I64 x) :
    FSpec Try.prog 8 [(false, [.l (rowsD api_Row.D l)]), (false, [.l (rowsD api_Entry.D e)]), (true, api_Row.D a), (true, api_Row.D b), (false, [.v (.int .i64 x)])] [.one (.d (.v (.bool true)))] :=
  novationlaw12_LedgerPosts.spec (ledgerPosts_true (fun i hi => by rw [rd_get l hi]; exact (h _ (List.getElem_mem _)).2.2) (fun y hy => (he y hy).2.2) a b hx)
end Go.Ax
