/- The law on what positions and open orders want is true of all that it is given. -/
import Derived.Test.YtmpbhgofllbejaaRneed
import Derived.Test.YtmpbhgofllbejaaPa
set_option linter.unusedVariables false
set_option linter.unusedSimpArgs false
set_option linter.unusedVariables false
set_option maxRecDepth 100000
namespace Go.Ax
open Go Go.Proofs
theorem legI_of {l : List api_Leg} (h : ∀ y ∈ l, api_Leg.ok y) : LegI l := by
  intro i hi
  rw [rd_get l hi]
  exact (h _ (List.getElem_mem hi)).2
theorem needAll_spec {c : api_Config} {l : List api_Leg} {o : List api_Open} {inst sum w : Int} (hn : c.Insts.length < 2 ^ 59) (hl : l.length < 2 ^ 59) (ho : o.length < 2 ^ 59) (hI : LegI l) (hs : I64 sum) :
    FSpec Try.prog 6 [(true, api_Config.D c), (false, [.l (rowsD api_Leg.D l)]), (false, [.l (rowsD api_Open.D o)]), (false, [.v (.int .i64 inst)]), (false, [.v (.int .i64 sum)]), (true, wD w)] [.one (.d (.v (.bool true)))] := by
  have k := novationlaw14_known.spec need_known
  by_cases h1 : (c.Insts.length : Int) > 12
  · exact needAll_i k (by simp) h1
  by_cases h2 : (l.length : Int) > 12
  · exact needAll_l k (by simp) h1 h2
  by_cases h3 : (o.length : Int) > 12
  · exact needAll_o k (by simp) h1 h2 h3
  exact needAll_told k (by simp) h1 h2 h3 (told14 hn hl ho hI hs)
end Go.Ax
