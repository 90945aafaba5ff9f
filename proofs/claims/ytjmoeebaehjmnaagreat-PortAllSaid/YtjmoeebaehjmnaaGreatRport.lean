/- PortAll: the law's contract. -/
import Derived.Test.YtjmoeebaehjmnaaGreatLa
import Derived.Test.YtjmoeebaehjmnaaGreatWm
set_option linter.unusedVariables false
set_option linter.unusedSimpArgs false
set_option linter.unusedVariables false
namespace Go.Ax
open Go Go.Proofs
set_option maxRecDepth 100000
theorem portAll_spec {c : api_Config} {b : api_Book} (hb : api_Book.ok b) (m to acc : Int) :
    FSpec Tryz.prog 3 [(true, api_Config.D c), (true, api_Book.D b), (false, [.v (.int .i64 m)]), (false, [.v (.int .i64 to)]), (false, [.v (.int .i64 acc)])] [.one (.d (.v (.bool true)))] :=
  novationlaw20_PortAll.spec (portAll_true (fun i hi => by rw [rd_get b.Rows hi]; exact (hb.2.2.1.1 _ (List.getElem_mem _)).2.2) (fun i hi => by rw [rd_get b.Stock hi]; exact (hb.2.2.2.1.1 _ (List.getElem_mem _)).2.2) m to acc)
end Go.Ax
