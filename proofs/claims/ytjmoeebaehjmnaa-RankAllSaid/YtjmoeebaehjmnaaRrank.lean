/- RankAll: the law's contract. -/
import Derived.Test.YtjmoeebaehjmnaaLa
import Derived.Test.YtjmoeebaehjmnaaWr
set_option linter.unusedVariables false
set_option linter.unusedSimpArgs false
set_option linter.unusedVariables false
namespace Go.Ax
open Go Go.Proofs
set_option maxRecDepth 100000
theorem rankAll_spec {c : api_Config} {b : api_Book} (hb : api_Book.ok b) (d : List api_Deed) (must : List Int) (lots : List api_Lot) (l : List api_Bid) (m k : Int) :
    FSpec Try.prog 3 [(true, api_Config.D c), (true, api_Book.D b), (false, [.l (rowsD api_Deed.D d)]), (false, [.l (rowsD i64D must)]), (false, [.l (rowsD api_Lot.D lots)]), (false, [.l (rowsD api_Bid.D l)]), (false, [.v (.int .i64 m)]), (false, [.v (.int .i64 k)])] [.one (.d (.v (.bool true)))] :=
  novationlaw26_RankAll.spec (rankAll_true m k (fun i hi => by rw [rd_get b.Rows hi]; exact (hb.2.2.1.1 _ (List.getElem_mem _)).2.2) (fun i hi => by rw [rd_get b.Stock hi]; exact (hb.2.2.2.1.1 _ (List.getElem_mem _)).2.2))
end Go.Ax
