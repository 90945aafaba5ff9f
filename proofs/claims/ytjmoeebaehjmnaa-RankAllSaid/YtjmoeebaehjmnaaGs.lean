/- The contracts of the functions on numbers, in the form that printed walks take. -/
import Derived.Test.YtjmoeebaehjmnaaGa
import Derived.Test.YtjmoeebaehjmnaaFa
import Derived.Test.YtjmoeebaehjmnaaSd7
import Derived.Test.YtjmoeebaehjmnaaSa6
import Derived.Test.YtjmoeebaehjmnaaSa7
set_option linter.unusedVariables false
set_option linter.unusedSimpArgs false
set_option linter.unusedVariables false
set_option maxRecDepth 100000
namespace Go.Ax
open Go Go.Proofs
theorem bigok_len {z : Int} (h : BigOk z) : (digs z.natAbs).length ≤ 12 := (digs_len _ _).2 h
theorem novationref1_Plus.spec {a b r : Int} (h : novationref1_Plus.f a b = some r) : FSpec Try.prog 121 [(true, bigDs a), (true, bigDs b)] [.agg (bigDs r)] := by
  obtain ⟨⟨ha, hb⟩, h⟩ := gd h
  obtain rfl := Option.some.inj h
  have := bigok_len ha; have := bigok_len hb
  exact plus_spec a b (by omega) (by omega)
theorem novationref1_Times.spec {a b r : Int} (h : novationref1_Times.f a b = some r) : FSpec Try.prog 60 [(true, bigDs a), (true, bigDs b)] [.agg (bigDs r)] := by
  obtain ⟨⟨ha, hb⟩, h⟩ := gd h
  obtain rfl := Option.some.inj h
  have := bigok_len ha; have := bigok_len hb
  exact times_spec a b (by omega) (by omega)
theorem novationref1_Sign.spec {a r : Int} (h : novationref1_Sign.f a = some r) : FSpec Try.prog 88 [(true, bigDs a)] [.one (.d (.v (.int .i64 r)))] := by
  obtain ⟨ha, h⟩ := gd h
  obtain rfl := Option.some.inj h
  have := bigok_len ha
  exact rsign_spec a (by omega)
theorem novationref1_Int.spec {a : Int} {r : Int × Bool} (h : novationref1_Int.f a = some r) : FSpec Try.prog 59 [(true, bigDs a)] [.one (.d (.v (.int .i64 r.1))), .one (.d (.v (.bool r.2)))] := by
  obtain ⟨ha, h⟩ := gd h
  obtain rfl := Option.some.inj h
  have := bigok_len ha
  exact int_spec a (by omega)
theorem novationref1_Whole.spec {a r : Int} (h : novationref1_Whole.f a = some r) : FSpec Try.prog 61 [(false, [.v (.int .i64 a)])] [.agg (bigDs r)] := by
  obtain ⟨ha, h⟩ := gd h
  obtain rfl := Option.some.inj h
  exact whole_spec a ha.1 ha.2
theorem amount_Size.spec {a r : Int} (h : amount_Size.f a = some r) : FSpec Try.prog 96 [(false, [.v (.int .i64 a)])] [.one (.d (.v (.int .u64 r)))] := by
  obtain ⟨ha, h⟩ := gd h
  obtain rfl := Option.some.inj h
  exact asize_spec a ha
theorem wide_Of.spec {a r : Int} (h : wide_Of.f a = some r) : FSpec Try.prog 110 [(false, [.v (.int .i64 a)])] [.agg (wD r)] := by
  obtain ⟨ha, h⟩ := gd h
  obtain rfl := Option.some.inj h
  exact of_spec a ha
theorem wide_Cmp.spec {a b r : Int} (h : wide_Cmp.f a b = some r) : FSpec Try.prog 109 [(true, wD a), (true, wD b)] [.one (.d (.v (.int .i64 r)))] := by
  obtain rfl := Option.some.inj h
  exact wcmp_spec a b
theorem wide_Sign.spec {a r : Int} (h : wide_Sign.f a = some r) : FSpec Try.prog 72 [(true, wD a)] [.one (.d (.v (.int .i64 r)))] := by
  obtain rfl := Option.some.inj h
  exact wsign_spec a
theorem wide_Sum.spec {l : List Int} {r : Int × Bool} (h : wide_Sum.f l = some r) : FSpec Try.prog 111 [(false, [.l (rowsD wD l)])] [.agg (wD r.1), .one (.d (.v (.bool r.2)))] := by
  unfold wide_Sum.f at h
  obtain ⟨⟨ha, hb⟩, h⟩ := gd h
  obtain rfl := Option.some.inj h
  exact wsum_spec l (fun x hx => by have := List.all_eq_true.1 ha x hx; simpa [wfit] using this) (by omega)
end Go.Ax
