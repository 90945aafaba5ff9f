/- The contracts of the functions on numbers, in the form that printed walks take. -/
import Derived.Test.YtmpbhgofllbejaaGa
import Derived.Test.YtmpbhgofllbejaaFa
import Derived.Test.YtmpbhgofllbejaaSd7
import Derived.Test.YtmpbhgofllbejaaSa6
import Derived.Test.YtmpbhgofllbejaaSa7
set_option linter.unusedVariables false
set_option linter.unusedSimpArgs false
set_option linter.unusedVariables false
set_option maxRecDepth 100000
namespace Go.Ax
open Go Go.Proofs
theorem bigok_len {z : Int} (h : BigOk z) : (digs z.natAbs).length ≤ 12 := (digs_len _ _).2 h
theorem novationref1_Plus.spec {a b r : Int} (h : novationref1_Plus.f a b = some r) : FSpec Try.prog 75 [(true, bigDs a), (true, bigDs b)] [.agg (bigDs r)] := by
  obtain ⟨⟨ha, hb⟩, h⟩ := gd h
  obtain rfl := Option.some.inj h
  have := bigok_len ha; have := bigok_len hb
  exact plus_spec a b (by omega) (by omega)
theorem novationref1_Less.spec {a b r : Int} (h : novationref1_Less.f a b = some r) : FSpec Try.prog 67 [(true, bigDs a), (true, bigDs b)] [.agg (bigDs r)] := by
  obtain ⟨⟨ha, hb⟩, h⟩ := gd h
  obtain rfl := Option.some.inj h
  have := bigok_len ha; have := bigok_len hb
  exact less_spec a b (by omega) (by omega)
theorem novationref1_Times.spec {a b r : Int} (h : novationref1_Times.f a b = some r) : FSpec Try.prog 71 [(true, bigDs a), (true, bigDs b)] [.agg (bigDs r)] := by
  obtain ⟨⟨ha, hb⟩, h⟩ := gd h
  obtain rfl := Option.some.inj h
  have := bigok_len ha; have := bigok_len hb
  exact times_spec a b (by omega) (by omega)
theorem novationref1_Sized.spec {a r : Int} (h : novationref1_Sized.f a = some r) : FSpec Try.prog 130 [(true, bigDs a)] [.agg (bigDs r)] := by
  obtain ⟨ha, h⟩ := gd h
  obtain rfl := Option.some.inj h
  have := bigok_len ha
  exact rsized_spec a (by omega)
theorem novationref1_Turned.spec {a r : Int} (h : novationref1_Turned.f a = some r) : FSpec Try.prog 82 [(true, bigDs a)] [.agg (bigDs r)] := by
  obtain ⟨ha, h⟩ := gd h
  obtain rfl := Option.some.inj h
  have := bigok_len ha
  exact turned_spec a (by omega)
theorem novationref1_Sign.spec {a r : Int} (h : novationref1_Sign.f a = some r) : FSpec Try.prog 69 [(true, bigDs a)] [.one (.d (.v (.int .i64 r)))] := by
  obtain ⟨ha, h⟩ := gd h
  obtain rfl := Option.some.inj h
  have := bigok_len ha
  exact rsign_spec a (by omega)
theorem novationref1_Cmp.spec {a b r : Int} (h : novationref1_Cmp.f a b = some r) : FSpec Try.prog 100 [(true, bigDs a), (true, bigDs b)] [.one (.d (.v (.int .i64 r)))] := by
  obtain ⟨⟨ha, hb⟩, h⟩ := gd h
  obtain rfl := Option.some.inj h
  have h1 := bigok_len ha; have h2 := bigok_len hb
  have h3 : (digs (a - b).natAbs).length ≤ 13 := by
    rw [digs_len]
    have e : BB ^ 13 = BB ^ 12 * BB := by rw [Nat.pow_succ]
    have hB : 2 ≤ BB := by decide
    have := Nat.mul_le_mul_left (BB ^ 12) hB
    unfold BigOk at ha hb
    rw [e]
    omega
  exact rcmp_spec a b (by omega) (by omega) (by omega)
theorem novationref1_Int.spec {a : Int} {r : Int × Bool} (h : novationref1_Int.f a = some r) : FSpec Try.prog 76 [(true, bigDs a)] [.one (.d (.v (.int .i64 r.1))), .one (.d (.v (.bool r.2)))] := by
  obtain ⟨ha, h⟩ := gd h
  obtain rfl := Option.some.inj h
  have := bigok_len ha
  exact int_spec a (by omega)
theorem novationref1_Whole.spec {a r : Int} (h : novationref1_Whole.f a = some r) : FSpec Try.prog 68 [(false, [.v (.int .i64 a)])] [.agg (bigDs r)] := by
  obtain ⟨ha, h⟩ := gd h
  obtain rfl := Option.some.inj h
  exact whole_spec a ha.1 ha.2
theorem novationref1_Wide.spec {a r : Int} (h : novationref1_Wide.f a = some r) : FSpec Try.prog 101 [(true, wD a)] [.agg (bigDs r)] := by
  obtain ⟨ha, h⟩ := gd h
  obtain rfl := Option.some.inj h
  exact rwide_spec a ha
theorem novationhelp_Wide.spec {w z : Int} {r : Bool} (h : novationhelp_Wide.f w z = some r) : FSpec Try.prog 39 [(true, wD w), (true, bigDs z)] [.one (.d (.v (.bool r)))] := by
  obtain ⟨⟨ha, hb⟩, h⟩ := gd h
  obtain rfl := Option.some.inj h
  exact hwide_spec w z ha 12 (by decide) (by decide) hb
theorem amount_Size.spec {a r : Int} (h : amount_Size.f a = some r) : FSpec Try.prog 114 [(false, [.v (.int .i64 a)])] [.one (.d (.v (.int .u64 r)))] := by
  obtain ⟨ha, h⟩ := gd h
  obtain rfl := Option.some.inj h
  exact asize_spec a ha
theorem wide_Of.spec {a r : Int} (h : wide_Of.f a = some r) : FSpec Try.prog 62 [(false, [.v (.int .i64 a)])] [.agg (wD r)] := by
  obtain ⟨ha, h⟩ := gd h
  obtain rfl := Option.some.inj h
  exact of_spec a ha
theorem wide_Mul.spec {a b r : Int} (h : wide_Mul.f a b = some r) : FSpec Try.prog 65 [(false, [.v (.int .i64 a)]), (false, [.v (.int .i64 b)])] [.agg (wD r)] := by
  obtain ⟨⟨ha, hb⟩, h⟩ := gd h
  obtain rfl := Option.some.inj h
  exact wmul_spec a b ha hb
theorem wide_Add.spec {a b : Int} {r : Int × Bool} (h : wide_Add.f a b = some r) : FSpec Try.prog 27 [(true, wD a), (true, wD b)] [.agg (wD r.1), .one (.d (.v (.bool r.2)))] := by
  obtain ⟨⟨ha, hb⟩, h⟩ := gd h
  obtain rfl := Option.some.inj h
  exact wadd_spec a b ha hb
theorem wide_Sub.spec {a b : Int} {r : Int × Bool} (h : wide_Sub.f a b = some r) : FSpec Try.prog 125 [(true, wD a), (true, wD b)] [.agg (wD r.1), .one (.d (.v (.bool r.2)))] := by
  obtain ⟨⟨ha, hb⟩, h⟩ := gd h
  obtain rfl := Option.some.inj h
  exact wsub_spec a b ha hb
theorem wide_Neg.spec {a : Int} {r : Int × Bool} (h : wide_Neg.f a = some r) : FSpec Try.prog 102 [(true, wD a)] [.agg (wD r.1), .one (.d (.v (.bool r.2)))] := by
  obtain ⟨ha, h⟩ := gd h
  obtain rfl := Option.some.inj h
  exact wneg_spec a ha
theorem wide_Abs.spec {a : Int} {r : Int × Bool} (h : wide_Abs.f a = some r) : FSpec Try.prog 126 [(true, wD a)] [.agg (wD r.1), .one (.d (.v (.bool r.2)))] := by
  obtain ⟨ha, h⟩ := gd h
  obtain rfl := Option.some.inj h
  have e := wabs_spec a ha
  unfold wAns at e
  simp only
  exact e
theorem wide_Times.spec {a k : Int} {r : Int × Bool} (h : wide_Times.f a k = some r) : FSpec Try.prog 127 [(true, wD a), (false, [.v (.int .i64 k)])] [.agg (wD r.1), .one (.d (.v (.bool r.2)))] := by
  obtain ⟨⟨ha, hb⟩, h⟩ := gd h
  obtain rfl := Option.some.inj h
  exact wtimes_spec a k ha hb
theorem wide_Cmp.spec {a b r : Int} (h : wide_Cmp.f a b = some r) : FSpec Try.prog 97 [(true, wD a), (true, wD b)] [.one (.d (.v (.int .i64 r)))] := by
  obtain rfl := Option.some.inj h
  exact wcmp_spec a b
theorem wide_Sign.spec {a r : Int} (h : wide_Sign.f a = some r) : FSpec Try.prog 111 [(true, wD a)] [.one (.d (.v (.int .i64 r)))] := by
  obtain rfl := Option.some.inj h
  exact wsign_spec a
theorem wide_Int.spec {a : Int} {r : Int × Bool} (h : wide_Int.f a = some r) : FSpec Try.prog 74 [(true, wD a)] [.one (.d (.v (.int .i64 r.1))), .one (.d (.v (.bool r.2)))] := by
  obtain ⟨ha, h⟩ := gd h
  obtain rfl := Option.some.inj h
  exact wint_spec a ha
theorem wide_Sum.spec {l : List Int} {r : Int × Bool} (h : wide_Sum.f l = some r) : FSpec Try.prog 73 [(false, [.l (rowsD wD l)])] [.agg (wD r.1), .one (.d (.v (.bool r.2)))] := by
  unfold wide_Sum.f at h
  obtain ⟨⟨ha, hb⟩, h⟩ := gd h
  obtain rfl := Option.some.inj h
  exact wsum_spec l (fun x hx => by have := List.all_eq_true.1 ha x hx; simpa [wfit] using this) (by omega)
end Go.Ax
