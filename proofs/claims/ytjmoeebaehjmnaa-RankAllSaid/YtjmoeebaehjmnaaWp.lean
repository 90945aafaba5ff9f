/- The walk of novationref10_Status, printed by gen.py. -/
import Derived.Test.YtjmoeebaehjmnaaGa
import Derived.Test.YtjmoeebaehjmnaaGs
import Derived.Test.YtjmoeebaehjmnaaWo
import Derived.Test.YtjmoeebaehjmnaaWn
set_option linter.unusedVariables false
set_option linter.unusedSimpArgs false
set_option linter.unusedSimpArgs false
set_option linter.unusedVariables false
namespace Go.Ax
open Go Go.Proofs
set_option maxRecDepth 100000
set_option maxHeartbeats 4000000
theorem novationref10_Status.spec {a0 : List api_Member} {a1 : Int} {r : Int} (h : novationref10_Status.f a0 a1 = some r) : FSpec Try.prog 56 [(false, [.l (rowsD api_Member.D a0)]), (false, [.v (.int .i64 a1)])] [.one (.d (.v (.int .i64 r)))] := by
  unfold novationref10_Status.f at h
  refine fspec_data mixed Try.func56 rfl (by decide) [0, 1, 4] (rs := [.tmp 4]) rfl (by decide) (n := 11) rfl (by simp) ?_
  refine wgo ?_
  repeat refine cj ?_
  obtain ⟨y1_1, hy1_1, h⟩ := bd h
  refine aCall_of (novationref10_Members.spec hy1_1) ?_
  refine wgo ?_
  repeat refine cj ?_
  refine kIf2 h (fun hb h => ?_) (fun hb h => ?_)
  obtain rfl := Option.some.inj h
  exact fin
  refine wgo ?_
  repeat refine cj ?_
  obtain ⟨y3_2, hy3_2, h⟩ := bd h
  refine aCall_of (novationref10_status.spec hy3_2) ?_
  obtain rfl := Option.some.inj h
  exact fin
end Go.Ax

/- The walk of novationref10_Total, printed by gen.py. -/
set_option linter.unusedSimpArgs false
set_option linter.unusedVariables false
namespace Go.Ax
open Go Go.Proofs
set_option maxRecDepth 100000
set_option maxHeartbeats 4000000
theorem novationref10_Total.spec {a0 : List api_Row} {r : Int} (h : novationref10_Total.f a0 = some r) : FSpec Try.prog 89 [(false, [.l (rowsD api_Row.D a0)])] [.agg (bigDs r)] := by
  unfold novationref10_Total.f at h
  refine fspec_data mixed Try.func89 rfl (by decide) [0, 2, 3, 4] (rs := [.cell 2 107]) rfl (by decide) (n := 24) rfl (by simp) ?_
  refine wgo ?_
  repeat refine cj ?_
  obtain ⟨y2_1, hy2_1, h⟩ := bd h
  refine aCall_of (novationref10_Rows.spec hy2_1) ?_
  refine wgo ?_
  repeat refine cj ?_
  refine kIf2 h (fun hb h => ?_) (fun hb h => ?_)
  obtain rfl := Option.some.inj h
  exact fin
  refine wgo ?_
  repeat refine cj ?_
  obtain ⟨s1, h1, q1⟩ := bd h
  rw [aCode_loop]
  refine aLoop_fx (α := Nat × Int × Int) (fun p => (⟨24, [], [(0, .one (.l (rowsD api_Row.D a0))), (2, .box [.d (.v (.bool (decide ((0 : Int) < 0)))), .d (.l (rowsU (digs (0 : Int).natAbs)))]), (3, .box [.d (.v (.bool (decide ((p.2.1 : Int) < 0)))), .d (.l (rowsU (digs (p.2.1 : Int).natAbs)))]), (4, .one (.v (.int .i64 p.2.2)))]⟩ : S)) (fun p => novationref10_Total.l0 a0 p.1 p.2.1 p.2.2 = some s1) (fun p => p.1) (FUEL, 0, 0) h1 ?_ ?_
  exact fxs
  rintro ⟨k1, x3_1, x4_1⟩ h
  simp only at h
  obtain _ | k1 := k1
  exact absurd h (by simp [novationref10_Total.l0])
  rw [novationref10_Total.l0] at h
  refine wgo ?_
  repeat refine cj ?_
  refine kIf2 h (fun hb h => ?_) (fun hb h => ?_)
  obtain ⟨⟨hg7_3_0, hg7_3_1⟩, h⟩ := gd h
  refine wgo ?_
  repeat refine cj ?_
  obtain ⟨y7_6, hy7_6, h⟩ := bd h
  refine aCall_of (novationref1_Whole.spec hy7_6) ?_
  refine wgo ?_
  repeat refine cj ?_
  obtain ⟨y7_7, hy7_7, h⟩ := bd h
  refine aCall_of (novationref1_Plus.spec hy7_7) ?_
  refine wgo ?_
  repeat refine cj ?_
  refine Round.fx (k1, y7_7, IntKind.i64.wrap (x4_1 + 1)) h (Nat.lt_succ_self k1) ?_
  exact fxs
  obtain rfl := Option.some.inj h
  have h := q1
  try dsimp only at h
  obtain rfl := Option.some.inj h
  exact fin
end Go.Ax

/- The walk of novationref15_price, printed by gen.py. -/
set_option linter.unusedSimpArgs false
set_option linter.unusedVariables false
namespace Go.Ax
open Go Go.Proofs
set_option maxRecDepth 100000
set_option maxHeartbeats 4000000
theorem novationref15_price.spec {a0 : Int} {r : Bool} (h : novationref15_price.f a0 = some r) : FSpec Try.prog 91 [(false, [.v (.int .i64 a0)])] [.one (.d (.v (.bool r)))] := by
  unfold novationref15_price.f at h
  refine fspec_data mixed Try.func91 rfl (by decide) [0, 2] (rs := [.tmp 2]) rfl (by decide) (n := 9) rfl (by simp) ?_
  refine wgo ?_
  repeat refine cj ?_
  refine kIf2 h (fun hb h => ?_) (fun hb h => ?_)
  obtain rfl := Option.some.inj h
  exact fin
  obtain rfl := Option.some.inj h
  exact fin
end Go.Ax

/- The walk of novationref15_RightOrder, printed by gen.py. -/
set_option linter.unusedSimpArgs false
set_option linter.unusedVariables false
namespace Go.Ax
open Go Go.Proofs
set_option maxRecDepth 100000
set_option maxHeartbeats 4000000
theorem novationref15_RightOrder.spec {a0 : api_Order} {r : Bool} (h : novationref15_RightOrder.f a0 = some r) : FSpec Try.prog 120 [(true, api_Order.D a0)] [.one (.d (.v (.bool r)))] := by
  unfold novationref15_RightOrder.f at h
  refine fspec_data mixed Try.func120 rfl (by decide) [0, 1, 2] (rs := [.tmp 2]) rfl (by decide) (n := 56) rfl (by simp) ?_
  refine wgo ?_
  repeat refine cj ?_
  refine kIf2 h (fun hb h => ?_) (fun hb h => ?_)
  refine wgo ?_
  repeat refine cj ?_
  refine kIf2 h (fun hb h => ?_) (fun hb h => ?_)
  refine wgo ?_
  repeat refine cj ?_
  refine kIf2 h (fun hb h => ?_) (fun hb h => ?_)
  refine wgo ?_
  repeat refine cj ?_
  refine kIf2 h (fun hb h => ?_) (fun hb h => ?_)
  refine wgo ?_
  repeat refine cj ?_
  refine kIf2 h (fun hb h => ?_) (fun hb h => ?_)
  refine wgo ?_
  repeat refine cj ?_
  refine kIf2 h (fun hb h => ?_) (fun hb h => ?_)
  refine wgo ?_
  repeat refine cj ?_
  refine kIf3 h (fun hb h => ?_) (fun hb h => ?_)
  refine wgo ?_
  repeat refine cj ?_
  refine kIf2 h (fun hb h => ?_) (fun hb h => ?_)
  refine wgo ?_
  repeat refine cj ?_
  refine kIf2 h (fun hb h => ?_) (fun hb h => ?_)
  refine wgo ?_
  repeat refine cj ?_
  refine kIf2 h (fun hb h => ?_) (fun hb h => ?_)
  refine wgo ?_
  repeat refine cj ?_
  obtain ⟨y1_51, hy1_51, h⟩ := bd h
  refine aCall_of (novationref15_price.spec hy1_51) ?_
  obtain rfl := Option.some.inj h
  exact fin
  obtain rfl := Option.some.inj h
  exact fin
  obtain rfl := Option.some.inj h
  exact fin
  obtain rfl := Option.some.inj h
  exact fin
  refine wgo ?_
  repeat refine cj ?_
  refine kIf2 h (fun hb h => ?_) (fun hb h => ?_)
  refine wgo ?_
  repeat refine cj ?_
  refine kIf2 h (fun hb h => ?_) (fun hb h => ?_)
  refine wgo ?_
  repeat refine cj ?_
  obtain ⟨y1_51, hy1_51, h⟩ := bd h
  refine aCall_of (novationref15_price.spec hy1_51) ?_
  obtain rfl := Option.some.inj h
  exact fin
  obtain rfl := Option.some.inj h
  exact fin
  obtain rfl := Option.some.inj h
  exact fin
  obtain rfl := Option.some.inj h
  exact fin
  obtain rfl := Option.some.inj h
  exact fin
  obtain rfl := Option.some.inj h
  exact fin
  obtain rfl := Option.some.inj h
  exact fin
  obtain rfl := Option.some.inj h
  exact fin
  obtain rfl := Option.some.inj h
  exact fin
end Go.Ax

/- The walk of novationref15_Orders, printed by gen.py. -/
set_option linter.unusedSimpArgs false
set_option linter.unusedVariables false
namespace Go.Ax
open Go Go.Proofs
set_option maxRecDepth 100000
set_option maxHeartbeats 4000000
theorem novationref15_Orders.spec {a0 : List api_Order} {r : Bool} (h : novationref15_Orders.f a0 = some r) : FSpec Try.prog 87 [(false, [.l (rowsD api_Order.D a0)])] [.one (.d (.v (.bool r)))] := by
  unfold novationref15_Orders.f at h
  refine fspec_data mixed Try.func87 rfl (by decide) [0, 2, 3] (rs := [.tmp 2]) rfl (by decide) (n := 37) rfl (by simp) ?_
  refine wgo ?_
  repeat refine cj ?_
  refine kIf2 h (fun hb h => ?_) (fun hb h => ?_)
  obtain rfl := Option.some.inj h
  exact fin
  refine wgo ?_
  repeat refine cj ?_
  obtain ⟨f1, h1, q1⟩ := bd h
  rw [aCode_loop]
  refine aLoop_fx (α := Nat × Int) (fun p => (⟨37, [], [(0, .one (.l (rowsD api_Order.D a0))), (2, .one (.v (.bool false))), (3, .one (.v (.int .i64 p.2)))]⟩ : S)) (fun p => novationref15_Orders.l0 a0 p.1 p.2 = some f1) (fun p => p.1) (FUEL, 0) h1 ?_ ?_
  exact fxs
  rintro ⟨k1, x3_1⟩ h
  simp only at h
  obtain _ | k1 := k1
  exact absurd h (by simp [novationref15_Orders.l0])
  rw [novationref15_Orders.l0] at h
  refine wgo ?_
  repeat refine cj ?_
  refine kIf2 h (fun hb h => ?_) (fun hb h => ?_)
  obtain ⟨⟨hg6_2_0, hg6_2_1⟩, h⟩ := gd h
  refine wgo ?_
  repeat refine cj ?_
  obtain ⟨y6_4, hy6_4, h⟩ := bd h
  have e := novationref15_RightOrder.spec hy6_4
  simp only [go_sem, List.map_set, rowsD_append, rowsD_cons, rowsD_nil, rowsD_set, rowsD_take, rowsD_drop, rowsD_replicate] at e
  refine aCall_of e ?_
  refine wgo ?_
  repeat refine cj ?_
  refine kIf3 h (fun hb h => ?_) (fun hb h => ?_)
  refine wgo ?_
  repeat refine cj ?_
  refine kIf2 h (fun hb h => ?_) (fun hb h => ?_)
  obtain ⟨⟨hg6_18_0, hg6_18_1⟩, h⟩ := gd h
  refine wgo ?_
  repeat refine cj ?_
  refine kIf2 h (fun hb h => ?_) (fun hb h => ?_)
  obtain rfl := Option.some.inj h
  have h := q1
  simp only [Flow.go_ret, Flow.goL_ret] at h
  obtain rfl := Option.some.inj h
  exact fin
  refine wgo ?_
  repeat refine cj ?_
  refine Round.fx (k1, IntKind.i64.wrap (x3_1 + 1)) h (Nat.lt_succ_self k1) ?_
  exact fxs
  refine wgo ?_
  repeat refine cj ?_
  refine Round.fx (k1, IntKind.i64.wrap (x3_1 + 1)) h (Nat.lt_succ_self k1) ?_
  exact fxs
  obtain rfl := Option.some.inj h
  have h := q1
  simp only [Flow.go_ret, Flow.goL_ret] at h
  obtain rfl := Option.some.inj h
  exact fin
  obtain rfl := Option.some.inj h
  have h := q1
  simp only [Flow.go_out, Flow.goL_out] at h
  try dsimp only at h
  obtain rfl := Option.some.inj h
  exact fin
end Go.Ax

/- The walk of novationref10_find, printed by gen.py. -/
set_option linter.unusedSimpArgs false
set_option linter.unusedVariables false
namespace Go.Ax
open Go Go.Proofs
set_option maxRecDepth 100000
set_option maxHeartbeats 4000000
theorem novationref10_find.spec {a0 : List api_Acc} {a1 : Int} {r : api_Acc × Bool} (h : novationref10_find.f a0 a1 = some r) : FSpec Try.prog 103 [(false, [.l (rowsD api_Acc.D a0)]), (false, [.v (.int .i64 a1)])] [.agg (api_Acc.D r.1), .one (.d (.v (.bool r.2)))] := by
  unfold novationref10_find.f at h
  refine fspec_data mixed Try.func103 rfl (by decide) [0, 1, 4, 5, 6] (rs := [.cell 4 92, .tmp 5]) rfl (by decide) (n := 25) rfl (by simp) ?_
  refine wgo ?_
  repeat refine cj ?_
  obtain ⟨f0, h0, q0⟩ := bd h
  rw [aCode_loop]
  refine aLoop_fx (α := Nat × Int) (fun p => (⟨25, [], [(0, .one (.l (rowsD api_Acc.D a0))), (1, .one (.v (.int .i64 a1))), (4, .box [.d (.v (.int .i64 0)), .d (.v (.int .i64 0)), .d (.v (.int .i64 0)), .d (.v (.int .i64 0))]), (5, .one (.v (.bool false))), (6, .one (.v (.int .i64 p.2)))]⟩ : S)) (fun p => novationref10_find.l0 a0 a1 p.1 p.2 = some f0) (fun p => p.1) (FUEL, 0) h0 ?_ ?_
  exact fxs
  rintro ⟨k0, x6_0⟩ h
  simp only at h
  obtain _ | k0 := k0
  exact absurd h (by simp [novationref10_find.l0])
  rw [novationref10_find.l0] at h
  refine wgo ?_
  repeat refine cj ?_
  refine kIf2 h (fun hb h => ?_) (fun hb h => ?_)
  obtain ⟨⟨hg4_2_0, hg4_2_1⟩, h⟩ := gd h
  refine wgo ?_
  repeat refine cj ?_
  refine kIf2 h (fun hb h => ?_) (fun hb h => ?_)
  obtain rfl := Option.some.inj h
  have h := q0
  simp only [Flow.go_ret, Flow.goL_ret] at h
  obtain rfl := Option.some.inj h
  exact fin
  refine wgo ?_
  repeat refine cj ?_
  refine Round.fx (k0, IntKind.i64.wrap (x6_0 + 1)) h (Nat.lt_succ_self k0) ?_
  exact fxs
  obtain rfl := Option.some.inj h
  have h := q0
  simp only [Flow.go_out, Flow.goL_out] at h
  try dsimp only at h
  obtain rfl := Option.some.inj h
  exact fin
end Go.Ax

/- The walk of novationref10_Find, printed by gen.py. -/
set_option linter.unusedSimpArgs false
set_option linter.unusedVariables false
namespace Go.Ax
open Go Go.Proofs
set_option maxRecDepth 100000
set_option maxHeartbeats 4000000
theorem novationref10_Find.spec {a0 : List api_Acc} {a1 : Int} {r : api_Acc × Bool} (h : novationref10_Find.f a0 a1 = some r) : FSpec Try.prog 62 [(false, [.l (rowsD api_Acc.D a0)]), (false, [.v (.int .i64 a1)])] [.agg (api_Acc.D r.1), .one (.d (.v (.bool r.2)))] := by
  unfold novationref10_Find.f at h
  refine fspec_data mixed Try.func62 rfl (by decide) [0, 1, 4, 5] (rs := [.cell 4 92, .tmp 5]) rfl (by decide) (n := 15) rfl (by simp) ?_
  refine wgo ?_
  repeat refine cj ?_
  obtain ⟨y1_1, hy1_1, h⟩ := bd h
  refine aCall_of (novationref10_Accs.spec hy1_1) ?_
  refine wgo ?_
  repeat refine cj ?_
  refine kIf2 h (fun hb h => ?_) (fun hb h => ?_)
  obtain rfl := Option.some.inj h
  exact fin
  refine wgo ?_
  repeat refine cj ?_
  obtain ⟨y3_2, hy3_2, h⟩ := bd h
  refine aCall_of (novationref10_find.spec hy3_2) ?_
  obtain rfl := Option.some.inj h
  exact fin
end Go.Ax

/- The walk of novationref15_there, printed by gen.py. -/
set_option linter.unusedSimpArgs false
set_option linter.unusedVariables false
namespace Go.Ax
open Go Go.Proofs
set_option maxRecDepth 100000
set_option maxHeartbeats 4000000
theorem novationref15_there.spec {a0 : api_Book} {a1 : Int} {r : Bool} (h : novationref15_there.f a0 a1 = some r) : FSpec Try.prog 90 [(true, api_Book.D a0), (false, [.v (.int .i64 a1)])] [.one (.d (.v (.bool r)))] := by
  unfold novationref15_there.f at h
  refine fspec_data mixed Try.func90 rfl (by decide) [0, 1, 2, 4, 5, 6] (rs := [.tmp 4]) rfl (by decide) (n := 19) rfl (by simp) ?_
  refine wgo ?_
  repeat refine cj ?_
  obtain ⟨y1_3, hy1_3, h⟩ := bd h
  refine aCall_of (novationref10_Find.spec hy1_3) ?_
  refine wgo ?_
  repeat refine cj ?_
  refine kIf3 h (fun hb h => ?_) (fun hb h => ?_)
  obtain rfl := Option.some.inj h
  exact fin
  obtain rfl := Option.some.inj h
  exact fin
end Go.Ax
