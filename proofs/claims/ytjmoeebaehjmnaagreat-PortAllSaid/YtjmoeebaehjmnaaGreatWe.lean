/- The walk of stock_Right, printed by gen.py. -/
import Derived.Test.YtjmoeebaehjmnaaGreatGa
import Derived.Test.YtjmoeebaehjmnaaGreatGs
import Derived.Test.YtjmoeebaehjmnaaGreatWd
import Derived.Test.YtjmoeebaehjmnaaGreatWb
import Derived.Test.YtjmoeebaehjmnaaGreatWc
set_option linter.unusedVariables false
set_option linter.unusedSimpArgs false
set_option linter.unusedSimpArgs false
set_option linter.unusedVariables false
namespace Go.Ax
open Go Go.Proofs
set_option maxRecDepth 100000
set_option maxHeartbeats 4000000
theorem stock_Right.spec {a0 : List api_Pos} {r : Bool} (h : stock_Right.f a0 = some r) : FSpec Tryz.prog 132 [(false, [.l (rowsD api_Pos.D a0)])] [.one (.d (.v (.bool r)))] := by
  unfold stock_Right.f at h
  refine fspec_data mixed Tryz.func132 rfl (by decide) [0, 2, 3, 4, 5, 6, 7] (rs := [.tmp 2]) rfl (by decide) (n := 47) rfl (by simp) ?_
  refine wgo ?_
  repeat refine cj ?_
  obtain ⟨f0, h0, q0⟩ := bd h
  rw [aCode_loop]
  refine aLoop_fx (α := Nat × Int) (fun p => (⟨47, [], [(0, .one (.l (rowsD api_Pos.D a0))), (2, .one (.v (.bool false))), (3, .none), (4, .none), (5, .one (.l (rowsD api_Pos.D a0))), (6, .one (.v (.int .i64 (a0.length : Int)))), (7, .one (.v (.int .i64 p.2)))]⟩ : S)) (fun p => stock_Right.l0 a0 p.1 p.2 = some f0) (fun p => p.1) (FUEL, 0) h0 ?_ ?_
  exact fxs
  rintro ⟨k0, x7_0⟩ h
  simp only at h
  obtain _ | k0 := k0
  exact absurd h (by simp [stock_Right.l0])
  rw [stock_Right.l0] at h
  refine wgo ?_
  repeat refine cj ?_
  refine kIf2 h (fun hb h => ?_) (fun hb h => ?_)
  obtain ⟨⟨hg3_1_0, hg3_1_1⟩, h⟩ := gd h
  refine wgo ?_
  repeat refine cj ?_
  obtain ⟨y4_4, hy4_4, h⟩ := bd h
  refine aCall_of (stock_key.spec hy4_4) ?_
  refine wgo ?_
  repeat refine cj ?_
  refine kIf3 h (fun hb h => ?_) (fun hb h => ?_)
  refine wgo ?_
  repeat refine cj ?_
  refine kIf3 h (fun hb h => ?_) (fun hb h => ?_)
  refine wgo ?_
  repeat refine cj ?_
  obtain ⟨y4_14, hy4_14, h⟩ := bd h
  refine aCall_of (stock_Quantity.spec hy4_14) ?_
  refine wgo ?_
  repeat refine cj ?_
  refine kIf3 h (fun hb h => ?_) (fun hb h => ?_)
  refine wgo ?_
  repeat refine cj ?_
  refine kIf2 h (fun hb h => ?_) (fun hb h => ?_)
  obtain ⟨⟨hg4_28_0, hg4_28_1⟩, h⟩ := gd h
  refine wgo ?_
  repeat refine cj ?_
  obtain ⟨y4_30, hy4_30, h⟩ := bd h
  have e := stock_order.spec hy4_30
  simp only [go_sem, List.map_set, rowsD_append, rowsD_cons, rowsD_nil, rowsD_set, rowsD_take, rowsD_drop, rowsD_replicate] at e
  refine aCall_of e ?_
  refine wgo ?_
  repeat refine cj ?_
  refine kIf2 h (fun hb h => ?_) (fun hb h => ?_)
  obtain rfl := Option.some.inj h
  have h := q0
  simp only [Flow.go_ret, Flow.goL_ret] at h
  obtain rfl := Option.some.inj h
  exact fin
  refine wgo ?_
  repeat refine cj ?_
  refine Round.fx (k0, IntKind.i64.wrap (x7_0 + 1)) h (Nat.lt_succ_self k0) ?_
  exact fxs
  refine wgo ?_
  repeat refine cj ?_
  refine Round.fx (k0, IntKind.i64.wrap (x7_0 + 1)) h (Nat.lt_succ_self k0) ?_
  exact fxs
  obtain rfl := Option.some.inj h
  have h := q0
  simp only [Flow.go_ret, Flow.goL_ret] at h
  obtain rfl := Option.some.inj h
  exact fin
  obtain rfl := Option.some.inj h
  have h := q0
  simp only [Flow.go_ret, Flow.goL_ret] at h
  obtain rfl := Option.some.inj h
  exact fin
  obtain rfl := Option.some.inj h
  have h := q0
  simp only [Flow.go_ret, Flow.goL_ret] at h
  obtain rfl := Option.some.inj h
  exact fin
  obtain rfl := Option.some.inj h
  have h := q0
  simp only [Flow.go_out, Flow.goL_out] at h
  try dsimp only at h
  obtain rfl := Option.some.inj h
  exact fin
end Go.Ax

/- The walk of stock_Sum, printed by gen.py. -/
set_option linter.unusedSimpArgs false
set_option linter.unusedVariables false
namespace Go.Ax
open Go Go.Proofs
set_option maxRecDepth 100000
set_option maxHeartbeats 4000000
theorem stock_Sum.spec {a0 : List api_Pos} {a1 : Int} {r : Int} (h : stock_Sum.f a0 a1 = some r) : FSpec Tryz.prog 179 [(false, [.l (rowsD api_Pos.D a0)]), (false, [.v (.int .i64 a1)])] [.agg (wD r)] := by
  unfold stock_Sum.f at h
  refine fspec_data mixed Tryz.func179 rfl (by decide) [0, 1, 4, 5, 7, 8, 14, 15, 16] (rs := [.cell 4 97]) rfl (by decide) (n := 37) rfl (by simp) ?_
  refine wgo ?_
  repeat refine cj ?_
  obtain ⟨y1_1, hy1_1, h⟩ := bd h
  refine aCall_of (stock_Right.spec hy1_1) ?_
  refine wgo ?_
  repeat refine cj ?_
  refine kIf2 h (fun hb h => ?_) (fun hb h => ?_)
  obtain rfl := Option.some.inj h
  exact fin
  refine wgo ?_
  repeat refine cj ?_
  obtain ⟨s1, h1, q1⟩ := bd h
  rw [aCode_loop]
  refine aLoop_fx (α := Nat × (List Int) × Int) (fun p => (⟨37, [], [(0, .one (.l (rowsD api_Pos.D a0))), (1, .one (.v (.int .i64 a1))), (4, .box [.d (.v (.int .i64 (wHi 0))), .d (.v (.int .u64 (wLo 0)))]), (5, .own 2 (rowsD wD p.2.1)), (7, .none), (8, .none), (14, .one (.l (rowsD api_Pos.D a0))), (15, .one (.v (.int .i64 (a0.length : Int)))), (16, .one (.v (.int .i64 p.2.2)))]⟩ : S)) (fun p => stock_Sum.l0 a0 a1 p.1 p.2.1 p.2.2 = some s1) (fun p => p.1) (FUEL, ([] : List Int), 0) h1 ?_ ?_
  exact fxs
  rintro ⟨k1, x5_1, x16_1⟩ h
  simp only at h
  obtain _ | k1 := k1
  exact absurd h (by simp [stock_Sum.l0])
  rw [stock_Sum.l0] at h
  refine wgo ?_
  repeat refine cj ?_
  refine kIf2 h (fun hb h => ?_) (fun hb h => ?_)
  obtain ⟨⟨hg6_0_0, hg6_0_1⟩, h⟩ := gd h
  refine wgo ?_
  repeat refine cj ?_
  refine kIf2 h (fun hb h => ?_) (fun hb h => ?_)
  refine wgo ?_
  repeat refine cj ?_
  obtain ⟨y8_3, hy8_3, h⟩ := bd h
  refine aCall_of (wide_Of.spec hy8_3) ?_
  obtain ⟨hg8_5, h⟩ := gd h
  refine wgo ?_
  repeat refine cj ?_
  refine Round.fx (k1, x5_1 ++ ([y8_3]), IntKind.i64.wrap (x16_1 + 1)) h (Nat.lt_succ_self k1) ?_
  exact fxs
  refine wgo ?_
  repeat refine cj ?_
  refine Round.fx (k1, x5_1, IntKind.i64.wrap (x16_1 + 1)) h (Nat.lt_succ_self k1) ?_
  exact fxs
  obtain rfl := Option.some.inj h
  have h := q1
  try dsimp only at h
  refine wgo ?_
  repeat refine cj ?_
  obtain ⟨y10_1, hy10_1, h⟩ := bd h
  refine aCall_of (wide_Sum.spec hy10_1) ?_
  obtain rfl := Option.some.inj h
  exact fin
end Go.Ax

/- The walk of stock_Flat, printed by gen.py. -/
set_option linter.unusedSimpArgs false
set_option linter.unusedVariables false
namespace Go.Ax
open Go Go.Proofs
set_option maxRecDepth 100000
set_option maxHeartbeats 4000000
theorem stock_Flat.spec {a0 : List api_Pos} {r : Bool} (h : stock_Flat.f a0 = some r) : FSpec Tryz.prog 122 [(false, [.l (rowsD api_Pos.D a0)])] [.one (.d (.v (.bool r)))] := by
  unfold stock_Flat.f at h
  refine fspec_data mixed Tryz.func122 rfl (by decide) [0, 2, 3, 4] (rs := [.tmp 2]) rfl (by decide) (n := 15) rfl (by simp) ?_
  refine wgo ?_
  repeat refine cj ?_
  obtain ⟨f0, h0, q0⟩ := bd h
  rw [aCode_loop]
  refine aLoop_fx (α := Nat × Int) (fun p => (⟨15, [], [(0, .one (.l (rowsD api_Pos.D a0))), (2, .one (.v (.bool false))), (3, .none), (4, .one (.v (.int .i64 p.2)))]⟩ : S)) (fun p => stock_Flat.l0 a0 p.1 p.2 = some f0) (fun p => p.1) (FUEL, 0) h0 ?_ ?_
  exact fxs
  rintro ⟨k0, x4_0⟩ h
  simp only at h
  obtain _ | k0 := k0
  exact absurd h (by simp [stock_Flat.l0])
  rw [stock_Flat.l0] at h
  refine wgo ?_
  repeat refine cj ?_
  refine kIf2 h (fun hb h => ?_) (fun hb h => ?_)
  refine wgo ?_
  repeat refine cj ?_
  obtain ⟨y4_2, hy4_2, h⟩ := bd h
  refine aCall_of (stock_Sum.spec hy4_2) ?_
  refine wgo ?_
  repeat refine cj ?_
  obtain ⟨y4_3, hy4_3, h⟩ := bd h
  refine aCall_of (wide_Sign.spec hy4_3) ?_
  refine wgo ?_
  repeat refine cj ?_
  refine kIf2 h (fun hb h => ?_) (fun hb h => ?_)
  obtain rfl := Option.some.inj h
  have h := q0
  simp only [Flow.go_ret, Flow.goL_ret] at h
  obtain rfl := Option.some.inj h
  exact fin
  refine wgo ?_
  repeat refine cj ?_
  refine Round.fx (k0, IntKind.i64.wrap (x4_0 + 1)) h (Nat.lt_succ_self k0) ?_
  exact fxs
  obtain rfl := Option.some.inj h
  have h := q0
  simp only [Flow.go_out, Flow.goL_out] at h
  try dsimp only at h
  refine wgo ?_
  repeat refine cj ?_
  obtain ⟨y7_1, hy7_1, h⟩ := bd h
  refine aCall_of (stock_Right.spec hy7_1) ?_
  obtain rfl := Option.some.inj h
  exact fin
end Go.Ax

/- The walk of book_Right, printed by gen.py. -/
set_option linter.unusedSimpArgs false
set_option linter.unusedVariables false
namespace Go.Ax
open Go Go.Proofs
set_option maxRecDepth 100000
set_option maxHeartbeats 4000000
theorem book_Right.spec {a0 : api_Config} {a1 : api_Book} {r : Bool} (h : book_Right.f a0 a1 = some r) : FSpec Tryz.prog 44 [(true, api_Config.D a0), (true, api_Book.D a1)] [.one (.d (.v (.bool r)))] := by
  unfold book_Right.f at h
  refine fspec_data mixed Tryz.func44 rfl (by decide) [0, 1, 2, 3, 4, 6, 8, 10, 57, 58, 59, 64, 72, 83, 84, 85, 109, 110, 111] (rs := [.tmp 4]) rfl (by decide) (n := 133) rfl (by simp) ?_
  refine wgo ?_
  repeat refine cj ?_
  obtain ⟨y1_1, hy1_1, h⟩ := bd h
  refine aCall_of (plan_Right.spec hy1_1) ?_
  refine wgo ?_
  repeat refine cj ?_
  refine kIf3 h (fun hb h => ?_) (fun hb h => ?_)
  refine wgo ?_
  repeat refine cj ?_
  obtain ⟨y1_8, hy1_8, h⟩ := bd h
  refine aCall_of (roll_Right.spec hy1_8) ?_
  refine wgo ?_
  repeat refine cj ?_
  refine kIf3 h (fun hb h => ?_) (fun hb h => ?_)
  refine wgo ?_
  repeat refine cj ?_
  obtain ⟨y1_14, hy1_14, h⟩ := bd h
  refine aCall_of (ledger_Right.spec hy1_14) ?_
  refine wgo ?_
  repeat refine cj ?_
  refine kIf3 h (fun hb h => ?_) (fun hb h => ?_)
  refine wgo ?_
  repeat refine cj ?_
  obtain ⟨y1_20, hy1_20, h⟩ := bd h
  refine aCall_of (ledger_Total.spec hy1_20) ?_
  refine wgo ?_
  repeat refine cj ?_
  obtain ⟨y1_21, hy1_21, h⟩ := bd h
  refine aCall_of (wide_Sign.spec hy1_21) ?_
  refine wgo ?_
  repeat refine cj ?_
  refine kIf3 h (fun hb h => ?_) (fun hb h => ?_)
  refine wgo ?_
  repeat refine cj ?_
  obtain ⟨y1_27, hy1_27, h⟩ := bd h
  refine aCall_of (stock_Flat.spec hy1_27) ?_
  refine wgo ?_
  repeat refine cj ?_
  refine kIf3 h (fun hb h => ?_) (fun hb h => ?_)
  refine wgo ?_
  repeat refine cj ?_
  obtain ⟨y1_33, hy1_33, h⟩ := bd h
  refine aCall_of (queue_Right.spec hy1_33) ?_
  refine wgo ?_
  repeat refine cj ?_
  refine kIf3 h (fun hb h => ?_) (fun hb h => ?_)
  refine wgo ?_
  repeat refine cj ?_
  refine kIf2 h (fun hb h => ?_) (fun hb h => ?_)
  obtain rfl := Option.some.inj h
  exact fin
  refine wgo ?_
  repeat refine cj ?_
  obtain ⟨f1, h1, q1⟩ := bd h
  rw [aCode_loop]
  refine aLoop_fx (α := Nat × Int) (fun p => (⟨133, [], [(0, .agg (api_Config.D a0)), (1, .agg (api_Book.D a1)), (2, .box [.d (.l (rowsD api_Inst.D a0.Insts)), .d (.v (.int .i64 a0.Skin)), .d (.v (.int .i64 a0.Times)), .d (.v (.int .i64 a0.Port)), .d (.v (.int .i64 a0.Bid)), .d (.v (.int .i64 a0.LotSize)), .d (.v (.int .i64 a0.HedgeMin))]), (3, .box [.d (.l (rowsD api_Member.D a1.Members)), .d (.l (rowsD api_Acc.D a1.Accs)), .d (.l (rowsD api_Row.D a1.Rows)), .d (.l (rowsD api_Pos.D a1.Stock)), .d (.l (rowsD i64D a1.Prices)), .d (.l (rowsD api_Order.D a1.Orders))]), (4, .one (.v (.bool false))), (6, .none), (8, .none), (10, .none), (57, .one (.l (rowsD api_Row.D a1.Rows))), (58, .one (.v (.int .i64 (a1.Rows.length : Int)))), (59, .one (.v (.int .i64 p.2))), (64, .none), (72, .none), (83, .none), (84, .none), (85, .none), (109, .none), (110, .none), (111, .none)]⟩ : S)) (fun p => book_Right.l0 a1 p.1 p.2 = some f1) (fun p => p.1) (FUEL, 0) h1 ?_ ?_
  exact fxs
  rintro ⟨k1, x59_1⟩ h
  simp only at h
  obtain _ | k1 := k1
  exact absurd h (by simp [book_Right.l0])
  rw [book_Right.l0] at h
  refine wgo ?_
  repeat refine cj ?_
  refine kIf2 h (fun hb h => ?_) (fun hb h => ?_)
  obtain ⟨⟨hg5_0_0, hg5_0_1⟩, h⟩ := gd h
  refine wgo ?_
  repeat refine cj ?_
  refine kIf2 h (fun hb h => ?_) (fun hb h => ?_)
  refine wgo ?_
  repeat refine cj ?_
  obtain ⟨y8_3, hy8_3, h⟩ := bd h
  refine aCall_of (book_Acc.spec hy8_3) ?_
  refine wgo ?_
  repeat refine cj ?_
  refine kIf2 h (fun hb h => ?_) (fun hb h => ?_)
  obtain rfl := Option.some.inj h
  have h := q1
  simp only [Flow.go_ret, Flow.goL_ret] at h
  obtain rfl := Option.some.inj h
  exact fin
  refine wgo ?_
  repeat refine cj ?_
  refine Round.fx (k1, IntKind.i64.wrap (x59_1 + 1)) h (Nat.lt_succ_self k1) ?_
  exact fxs
  refine wgo ?_
  repeat refine cj ?_
  refine kIf2 h (fun hb h => ?_) (fun hb h => ?_)
  refine wgo ?_
  repeat refine cj ?_
  refine kIf2 h (fun hb h => ?_) (fun hb h => ?_)
  refine wgo ?_
  repeat refine cj ?_
  obtain ⟨y12_4, hy12_4, h⟩ := bd h
  refine aCall_of (roll_Status.spec hy12_4) ?_
  refine wgo ?_
  repeat refine cj ?_
  refine kIf2 h (fun hb h => ?_) (fun hb h => ?_)
  obtain rfl := Option.some.inj h
  have h := q1
  simp only [Flow.go_ret, Flow.goL_ret] at h
  obtain rfl := Option.some.inj h
  exact fin
  refine wgo ?_
  repeat refine cj ?_
  refine Round.fx (k1, IntKind.i64.wrap (x59_1 + 1)) h (Nat.lt_succ_self k1) ?_
  exact fxs
  refine wgo ?_
  repeat refine cj ?_
  refine Round.fx (k1, IntKind.i64.wrap (x59_1 + 1)) h (Nat.lt_succ_self k1) ?_
  exact fxs
  refine wgo ?_
  repeat refine cj ?_
  refine kIf2 h (fun hb h => ?_) (fun hb h => ?_)
  refine wgo ?_
  repeat refine cj ?_
  obtain ⟨y12_4, hy12_4, h⟩ := bd h
  refine aCall_of (roll_Status.spec hy12_4) ?_
  refine wgo ?_
  repeat refine cj ?_
  refine kIf2 h (fun hb h => ?_) (fun hb h => ?_)
  obtain rfl := Option.some.inj h
  have h := q1
  simp only [Flow.go_ret, Flow.goL_ret] at h
  obtain rfl := Option.some.inj h
  exact fin
  refine wgo ?_
  repeat refine cj ?_
  refine Round.fx (k1, IntKind.i64.wrap (x59_1 + 1)) h (Nat.lt_succ_self k1) ?_
  exact fxs
  refine wgo ?_
  repeat refine cj ?_
  refine Round.fx (k1, IntKind.i64.wrap (x59_1 + 1)) h (Nat.lt_succ_self k1) ?_
  exact fxs
  obtain rfl := Option.some.inj h
  have h := q1
  simp only [Flow.go_out, Flow.goL_out] at h
  try dsimp only at h
  refine wgo ?_
  repeat refine cj ?_
  obtain ⟨f8, h8, q8⟩ := bd h
  rw [aCode_loop]
  refine aLoop_fx (α := Nat × Int) (fun p => (⟨133, [], [(0, .agg (api_Config.D a0)), (1, .agg (api_Book.D a1)), (2, .box [.d (.l (rowsD api_Inst.D a0.Insts)), .d (.v (.int .i64 a0.Skin)), .d (.v (.int .i64 a0.Times)), .d (.v (.int .i64 a0.Port)), .d (.v (.int .i64 a0.Bid)), .d (.v (.int .i64 a0.LotSize)), .d (.v (.int .i64 a0.HedgeMin))]), (3, .box [.d (.l (rowsD api_Member.D a1.Members)), .d (.l (rowsD api_Acc.D a1.Accs)), .d (.l (rowsD api_Row.D a1.Rows)), .d (.l (rowsD api_Pos.D a1.Stock)), .d (.l (rowsD i64D a1.Prices)), .d (.l (rowsD api_Order.D a1.Orders))]), (4, .one (.v (.bool false))), (6, .none), (8, .none), (10, .none), (57, .one (.l (rowsD api_Row.D a1.Rows))), (58, .one (.v (.int .i64 (a1.Rows.length : Int)))), (59, .one (.v (.int .i64 x59_1))), (64, .none), (72, .none), (83, .one (.l (rowsD api_Pos.D a1.Stock))), (84, .one (.v (.int .i64 (a1.Stock.length : Int)))), (85, .one (.v (.int .i64 p.2))), (109, .none), (110, .none), (111, .none)]⟩ : S)) (fun p => book_Right.l1 a0 a1 p.1 p.2 = some f8) (fun p => p.1) (FUEL, 0) h8 ?_ ?_
  exact fxs
  rintro ⟨k8, x85_8⟩ h
  simp only at h
  obtain _ | k8 := k8
  exact absurd h (by simp [book_Right.l1])
  rw [book_Right.l1] at h
  refine wgo ?_
  repeat refine cj ?_
  refine kIf2 h (fun hb h => ?_) (fun hb h => ?_)
  obtain ⟨⟨hg17_0_0, hg17_0_1⟩, h⟩ := gd h
  refine wgo ?_
  repeat refine cj ?_
  refine kIf2 h (fun hb h => ?_) (fun hb h => ?_)
  refine wgo ?_
  repeat refine cj ?_
  obtain ⟨y18_7, hy18_7, h⟩ := bd h
  refine aCall_of (book_Acc.spec hy18_7) ?_
  refine wgo ?_
  repeat refine cj ?_
  refine kIf3 h (fun hb h => ?_) (fun hb h => ?_)
  refine wgo ?_
  repeat refine cj ?_
  refine kIf2 h (fun hb h => ?_) (fun hb h => ?_)
  obtain rfl := Option.some.inj h
  have h := q8
  simp only [Flow.go_ret, Flow.goL_ret] at h
  obtain rfl := Option.some.inj h
  exact fin
  refine wgo ?_
  repeat refine cj ?_
  refine Round.fx (k8, IntKind.i64.wrap (x85_8 + 1)) h (Nat.lt_succ_self k8) ?_
  exact fxs
  obtain rfl := Option.some.inj h
  have h := q8
  simp only [Flow.go_ret, Flow.goL_ret] at h
  obtain rfl := Option.some.inj h
  exact fin
  refine wgo ?_
  repeat refine cj ?_
  refine kIf2 h (fun hb h => ?_) (fun hb h => ?_)
  obtain rfl := Option.some.inj h
  have h := q8
  simp only [Flow.go_ret, Flow.goL_ret] at h
  obtain rfl := Option.some.inj h
  exact fin
  refine wgo ?_
  repeat refine cj ?_
  refine Round.fx (k8, IntKind.i64.wrap (x85_8 + 1)) h (Nat.lt_succ_self k8) ?_
  exact fxs
  obtain rfl := Option.some.inj h
  have h := q8
  simp only [Flow.go_out, Flow.goL_out] at h
  try dsimp only at h
  refine wgo ?_
  repeat refine cj ?_
  obtain ⟨f11, h11, q11⟩ := bd h
  rw [aCode_loop]
  refine aLoop_fx (α := Nat × Int) (fun p => (⟨133, [], [(0, .agg (api_Config.D a0)), (1, .agg (api_Book.D a1)), (2, .box [.d (.l (rowsD api_Inst.D a0.Insts)), .d (.v (.int .i64 a0.Skin)), .d (.v (.int .i64 a0.Times)), .d (.v (.int .i64 a0.Port)), .d (.v (.int .i64 a0.Bid)), .d (.v (.int .i64 a0.LotSize)), .d (.v (.int .i64 a0.HedgeMin))]), (3, .box [.d (.l (rowsD api_Member.D a1.Members)), .d (.l (rowsD api_Acc.D a1.Accs)), .d (.l (rowsD api_Row.D a1.Rows)), .d (.l (rowsD api_Pos.D a1.Stock)), .d (.l (rowsD i64D a1.Prices)), .d (.l (rowsD api_Order.D a1.Orders))]), (4, .one (.v (.bool false))), (6, .none), (8, .none), (10, .none), (57, .one (.l (rowsD api_Row.D a1.Rows))), (58, .one (.v (.int .i64 (a1.Rows.length : Int)))), (59, .one (.v (.int .i64 x59_1))), (64, .none), (72, .none), (83, .one (.l (rowsD api_Pos.D a1.Stock))), (84, .one (.v (.int .i64 (a1.Stock.length : Int)))), (85, .one (.v (.int .i64 x85_8))), (109, .one (.l (rowsD api_Order.D a1.Orders))), (110, .one (.v (.int .i64 (a1.Orders.length : Int)))), (111, .one (.v (.int .i64 p.2)))]⟩ : S)) (fun p => book_Right.l2 a0 a1 p.1 p.2 = some f11) (fun p => p.1) (FUEL, 0) h11 ?_ ?_
  exact fxs
  rintro ⟨k11, x111_11⟩ h
  simp only at h
  obtain _ | k11 := k11
  exact absurd h (by simp [book_Right.l2])
  rw [book_Right.l2] at h
  refine wgo ?_
  repeat refine cj ?_
  refine kIf2 h (fun hb h => ?_) (fun hb h => ?_)
  obtain ⟨⟨hg23_0_0, hg23_0_1⟩, h⟩ := gd h
  refine wgo ?_
  repeat refine cj ?_
  obtain ⟨y24_3, hy24_3, h⟩ := bd h
  refine aCall_of (book_Acc.spec hy24_3) ?_
  refine wgo ?_
  repeat refine cj ?_
  refine kIf3 h (fun hb h => ?_) (fun hb h => ?_)
  refine wgo ?_
  repeat refine cj ?_
  refine kIf2 h (fun hb h => ?_) (fun hb h => ?_)
  obtain rfl := Option.some.inj h
  have h := q11
  simp only [Flow.go_ret, Flow.goL_ret] at h
  obtain rfl := Option.some.inj h
  exact fin
  refine wgo ?_
  repeat refine cj ?_
  refine Round.fx (k11, IntKind.i64.wrap (x111_11 + 1)) h (Nat.lt_succ_self k11) ?_
  exact fxs
  obtain rfl := Option.some.inj h
  have h := q11
  simp only [Flow.go_ret, Flow.goL_ret] at h
  obtain rfl := Option.some.inj h
  exact fin
  obtain rfl := Option.some.inj h
  have h := q11
  simp only [Flow.go_out, Flow.goL_out] at h
  try dsimp only at h
  refine wgo ?_
  repeat refine cj ?_
  obtain ⟨y27_2, hy27_2, h⟩ := bd h
  refine aCall_of (slices_ContainsFunc_int64_book_Right_1.spec hy27_2) ?_
  obtain rfl := Option.some.inj h
  exact fin
  obtain rfl := Option.some.inj h
  exact fin
  obtain rfl := Option.some.inj h
  exact fin
  obtain rfl := Option.some.inj h
  exact fin
  obtain rfl := Option.some.inj h
  exact fin
  obtain rfl := Option.some.inj h
  exact fin
  obtain rfl := Option.some.inj h
  exact fin
end Go.Ax
