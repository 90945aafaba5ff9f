/- The walk of book_Right, printed by gen.py. -/
import Derived.Test.YtjmoeebaehjmnaaGa
import Derived.Test.YtjmoeebaehjmnaaGs
import Derived.Test.YtjmoeebaehjmnaaWf
import Derived.Test.YtjmoeebaehjmnaaWg
import Derived.Test.YtjmoeebaehjmnaaWb
import Derived.Test.YtjmoeebaehjmnaaWh
import Derived.Test.YtjmoeebaehjmnaaWa
set_option linter.unusedVariables false
set_option linter.unusedSimpArgs false
set_option linter.unusedSimpArgs false
set_option linter.unusedVariables false
namespace Go.Ax
open Go Go.Proofs
set_option maxRecDepth 100000
set_option maxHeartbeats 4000000
theorem book_Right.spec {a0 : api_Config} {a1 : api_Book} {r : Bool} (h : book_Right.f a0 a1 = some r) : FSpec Try.prog 37 [(true, api_Config.D a0), (true, api_Book.D a1)] [.one (.d (.v (.bool r)))] := by
  unfold book_Right.f at h
  refine fspec_data mixed Try.func37 rfl (by decide) [0, 1, 2, 3, 4, 6, 8, 10, 57, 58, 59, 64, 72, 83, 84, 85, 109, 110, 111] (rs := [.tmp 4]) rfl (by decide) (n := 133) rfl (by simp) ?_
  refine wgo ?_
  repeat refine cj ?_
  obtain ⟨y1_1, hy1_1, h⟩ := bd h
  refine aCall_of (plan_Right.spec hy1_1) ?_
  refine wgo ?_
  repeat refine cj ?_
  refine kIf3 h (fun hb h => ?_) (fun hb h => ?_)
  refine wgo ?_
  repeat refine cj ?_
  obtain ⟨y1_8, hy1_8, h⟩ := bd h
  refine aCall_of (roll_Right.spec hy1_8) ?_
  refine wgo ?_
  repeat refine cj ?_
  refine kIf3 h (fun hb h => ?_) (fun hb h => ?_)
  refine wgo ?_
  repeat refine cj ?_
  obtain ⟨y1_14, hy1_14, h⟩ := bd h
  refine aCall_of (ledger_Right.spec hy1_14) ?_
  refine wgo ?_
  repeat refine cj ?_
  refine kIf3 h (fun hb h => ?_) (fun hb h => ?_)
  refine wgo ?_
  repeat refine cj ?_
  obtain ⟨y1_20, hy1_20, h⟩ := bd h
  refine aCall_of (ledger_Total.spec hy1_20) ?_
  refine wgo ?_
  repeat refine cj ?_
  obtain ⟨y1_21, hy1_21, h⟩ := bd h
  refine aCall_of (wide_Sign.spec hy1_21) ?_
  refine wgo ?_
  repeat refine cj ?_
  refine kIf3 h (fun hb h => ?_) (fun hb h => ?_)
  refine wgo ?_
  repeat refine cj ?_
  obtain ⟨y1_27, hy1_27, h⟩ := bd h
  refine aCall_of (stock_Flat.spec hy1_27) ?_
  refine wgo ?_
  repeat refine cj ?_
  refine kIf3 h (fun hb h => ?_) (fun hb h => ?_)
  refine wgo ?_
  repeat refine cj ?_
  obtain ⟨y1_33, hy1_33, h⟩ := bd h
  refine aCall_of (queue_Right.spec hy1_33) ?_
  refine wgo ?_
  repeat refine cj ?_
  refine kIf3 h (fun hb h => ?_) (fun hb h => ?_)
  refine wgo ?_
  repeat refine cj ?_
  refine kIf2 h (fun hb h => ?_) (fun hb h => ?_)
  obtain rfl := Option.some.inj h
  exact fin
  refine wgo ?_
  repeat refine cj ?_
  obtain ⟨f1, h1, q1⟩ := bd h
  rw [aCode_loop]
  refine aLoop_fx (α := Nat × Int) (fun p => (⟨133, [], [(0, .agg (api_Config.D a0)), (1, .agg (api_Book.D a1)), (2, .box [.d (.l (rowsD api_Inst.D a0.Insts)), .d (.v (.int .i64 a0.Skin)), .d (.v (.int .i64 a0.Times)), .d (.v (.int .i64 a0.Port)), .d (.v (.int .i64 a0.Bid)), .d (.v (.int .i64 a0.LotSize)), .d (.v (.int .i64 a0.HedgeMin))]), (3, .box [.d (.l (rowsD api_Member.D a1.Members)), .d (.l (rowsD api_Acc.D a1.Accs)), .d (.l (rowsD api_Row.D a1.Rows)), .d (.l (rowsD api_Pos.D a1.Stock)), .d (.l (rowsD i64D a1.Prices)), .d (.l (rowsD api_Order.D a1.Orders))]), (4, .one (.v (.bool false))), (6, .none), (8, .none), (10, .none), (57, .one (.l (rowsD api_Row.D a1.Rows))), (58, .one (.v (.int .i64 (a1.Rows.length : Int)))), (59, .one (.v (.int .i64 p.2))), (64, .none), (72, .none), (83, .none), (84, .none), (85, .none), (109, .none), (110, .none), (111, .none)]⟩ : S)) (fun p => book_Right.l0 a1 p.1 p.2 = some f1) (fun p => p.1) (FUEL, 0) h1 ?_ ?_
  exact fxs
  rintro ⟨k1, x59_1⟩ h
  simp only at h
  obtain _ | k1 := k1
  exact absurd h (by simp [book_Right.l0])
  rw [book_Right.l0] at h
  refine wgo ?_
  repeat refine cj ?_
  refine kIf2 h (fun hb h => ?_) (fun hb h => ?_)
  obtain ⟨⟨hg5_0_0, hg5_0_1⟩, h⟩ := gd h
  refine wgo ?_
  repeat refine cj ?_
  refine kIf2 h (fun hb h => ?_) (fun hb h => ?_)
  refine wgo ?_
  repeat refine cj ?_
  obtain ⟨y8_3, hy8_3, h⟩ := bd h
  refine aCall_of (book_Acc.spec hy8_3) ?_
  refine wgo ?_
  repeat refine cj ?_
  refine kIf2 h (fun hb h => ?_) (fun hb h => ?_)
  obtain rfl := Option.some.inj h
  have h := q1
  simp only [Flow.go_ret, Flow.goL_ret] at h
  obtain rfl := Option.some.inj h
  exact fin
  refine wgo ?_
  repeat refine cj ?_
  refine Round.fx (k1, IntKind.i64.wrap (x59_1 + 1)) h (Nat.lt_succ_self k1) ?_
  exact fxs
  refine wgo ?_
  repeat refine cj ?_
  refine kIf2 h (fun hb h => ?_) (fun hb h => ?_)
  refine wgo ?_
  repeat refine cj ?_
  refine kIf2 h (fun hb h => ?_) (fun hb h => ?_)
  refine wgo ?_
  repeat refine cj ?_
  obtain ⟨y12_4, hy12_4, h⟩ := bd h
  refine aCall_of (roll_Status.spec hy12_4) ?_
  refine wgo ?_
  repeat refine cj ?_
  refine kIf2 h (fun hb h => ?_) (fun hb h => ?_)
  obtain rfl := Option.some.inj h
  have h := q1
  simp only [Flow.go_ret, Flow.goL_ret] at h
  obtain rfl := Option.some.inj h
  exact fin
  refine wgo ?_
  repeat refine cj ?_
  refine Round.fx (k1, IntKind.i64.wrap (x59_1 + 1)) h (Nat.lt_succ_self k1) ?_
  exact fxs
  refine wgo ?_
  repeat refine cj ?_
  refine Round.fx (k1, IntKind.i64.wrap (x59_1 + 1)) h (Nat.lt_succ_self k1) ?_
  exact fxs
  refine wgo ?_
  repeat refine cj ?_
  refine kIf2 h (fun hb h => ?_) (fun hb h => ?_)
  refine wgo ?_
  repeat refine cj ?_
  obtain ⟨y12_4, hy12_4, h⟩ := bd h
  refine aCall_of (roll_Status.spec hy12_4) ?_
  refine wgo ?_
  repeat refine cj ?_
  refine kIf2 h (fun hb h => ?_) (fun hb h => ?_)
  obtain rfl := Option.some.inj h
  have h := q1
  simp only [Flow.go_ret, Flow.goL_ret] at h
  obtain rfl := Option.some.inj h
  exact fin
  refine wgo ?_
  repeat refine cj ?_
  refine Round.fx (k1, IntKind.i64.wrap (x59_1 + 1)) h (Nat.lt_succ_self k1) ?_
  exact fxs
  refine wgo ?_
  repeat refine cj ?_
  refine Round.fx (k1, IntKind.i64.wrap (x59_1 + 1)) h (Nat.lt_succ_self k1) ?_
  exact fxs
  obtain rfl := Option.some.inj h
  have h := q1
  simp only [Flow.go_out, Flow.goL_out] at h
  try dsimp only at h
  refine wgo ?_
  repeat refine cj ?_
  obtain ⟨f8, h8, q8⟩ := bd h
  rw [aCode_loop]
  refine aLoop_fx (α := Nat × Int) (fun p => (⟨133, [], [(0, .agg (api_Config.D a0)), (1, .agg (api_Book.D a1)), (2, .box [.d (.l (rowsD api_Inst.D a0.Insts)), .d (.v (.int .i64 a0.Skin)), .d (.v (.int .i64 a0.Times)), .d (.v (.int .i64 a0.Port)), .d (.v (.int .i64 a0.Bid)), .d (.v (.int .i64 a0.LotSize)), .d (.v (.int .i64 a0.HedgeMin))]), (3, .box [.d (.l (rowsD api_Member.D a1.Members)), .d (.l (rowsD api_Acc.D a1.Accs)), .d (.l (rowsD api_Row.D a1.Rows)), .d (.l (rowsD api_Pos.D a1.Stock)), .d (.l (rowsD i64D a1.Prices)), .d (.l (rowsD api_Order.D a1.Orders))]), (4, .one (.v (.bool false))), (6, .none), (8, .none), (10, .none), (57, .one (.l (rowsD api_Row.D a1.Rows))), (58, .one (.v (.int .i64 (a1.Rows.length : Int)))), (59, .one (.v (.int .i64 x59_1))), (64, .none), (72, .none), (83, .one (.l (rowsD api_Pos.D a1.Stock))), (84, .one (.v (.int .i64 (a1.Stock.length : Int)))), (85, .one (.v (.int .i64 p.2))), (109, .none), (110, .none), (111, .none)]⟩ : S)) (fun p => book_Right.l1 a0 a1 p.1 p.2 = some f8) (fun p => p.1) (FUEL, 0) h8 ?_ ?_
  exact fxs
  rintro ⟨k8, x85_8⟩ h
  simp only at h
  obtain _ | k8 := k8
  exact absurd h (by simp [book_Right.l1])
  rw [book_Right.l1] at h
  refine wgo ?_
  repeat refine cj ?_
  refine kIf2 h (fun hb h => ?_) (fun hb h => ?_)
  obtain ⟨⟨hg17_0_0, hg17_0_1⟩, h⟩ := gd h
  refine wgo ?_
  repeat refine cj ?_
  refine kIf2 h (fun hb h => ?_) (fun hb h => ?_)
  refine wgo ?_
  repeat refine cj ?_
  obtain ⟨y18_7, hy18_7, h⟩ := bd h
  refine aCall_of (book_Acc.spec hy18_7) ?_
  refine wgo ?_
  repeat refine cj ?_
  refine kIf3 h (fun hb h => ?_) (fun hb h => ?_)
  refine wgo ?_
  repeat refine cj ?_
  refine kIf2 h (fun hb h => ?_) (fun hb h => ?_)
  obtain rfl := Option.some.inj h
  have h := q8
  simp only [Flow.go_ret, Flow.goL_ret] at h
  obtain rfl := Option.some.inj h
  exact fin
  refine wgo ?_
  repeat refine cj ?_
  refine Round.fx (k8, IntKind.i64.wrap (x85_8 + 1)) h (Nat.lt_succ_self k8) ?_
  exact fxs
  obtain rfl := Option.some.inj h
  have h := q8
  simp only [Flow.go_ret, Flow.goL_ret] at h
  obtain rfl := Option.some.inj h
  exact fin
  refine wgo ?_
  repeat refine cj ?_
  refine kIf2 h (fun hb h => ?_) (fun hb h => ?_)
  obtain rfl := Option.some.inj h
  have h := q8
  simp only [Flow.go_ret, Flow.goL_ret] at h
  obtain rfl := Option.some.inj h
  exact fin
  refine wgo ?_
  repeat refine cj ?_
  refine Round.fx (k8, IntKind.i64.wrap (x85_8 + 1)) h (Nat.lt_succ_self k8) ?_
  exact fxs
  obtain rfl := Option.some.inj h
  have h := q8
  simp only [Flow.go_out, Flow.goL_out] at h
  try dsimp only at h
  refine wgo ?_
  repeat refine cj ?_
  obtain ⟨f11, h11, q11⟩ := bd h
  rw [aCode_loop]
  refine aLoop_fx (α := Nat × Int) (fun p => (⟨133, [], [(0, .agg (api_Config.D a0)), (1, .agg (api_Book.D a1)), (2, .box [.d (.l (rowsD api_Inst.D a0.Insts)), .d (.v (.int .i64 a0.Skin)), .d (.v (.int .i64 a0.Times)), .d (.v (.int .i64 a0.Port)), .d (.v (.int .i64 a0.Bid)), .d (.v (.int .i64 a0.LotSize)), .d (.v (.int .i64 a0.HedgeMin))]), (3, .box [.d (.l (rowsD api_Member.D a1.Members)), .d (.l (rowsD api_Acc.D a1.Accs)), .d (.l (rowsD api_Row.D a1.Rows)), .d (.l (rowsD api_Pos.D a1.Stock)), .d (.l (rowsD i64D a1.Prices)), .d (.l (rowsD api_Order.D a1.Orders))]), (4, .one (.v (.bool false))), (6, .none), (8, .none), (10, .none), (57, .one (.l (rowsD api_Row.D a1.Rows))), (58, .one (.v (.int .i64 (a1.Rows.length : Int)))), (59, .one (.v (.int .i64 x59_1))), (64, .none), (72, .none), (83, .one (.l (rowsD api_Pos.D a1.Stock))), (84, .one (.v (.int .i64 (a1.Stock.length : Int)))), (85, .one (.v (.int .i64 x85_8))), (109, .one (.l (rowsD api_Order.D a1.Orders))), (110, .one (.v (.int .i64 (a1.Orders.length : Int)))), (111, .one (.v (.int .i64 p.2)))]⟩ : S)) (fun p => book_Right.l2 a0 a1 p.1 p.2 = some f11) (fun p => p.1) (FUEL, 0) h11 ?_ ?_
  exact fxs
  rintro ⟨k11, x111_11⟩ h
  simp only at h
  obtain _ | k11 := k11
  exact absurd h (by simp [book_Right.l2])
  rw [book_Right.l2] at h
  refine wgo ?_
  repeat refine cj ?_
  refine kIf2 h (fun hb h => ?_) (fun hb h => ?_)
  obtain ⟨⟨hg23_0_0, hg23_0_1⟩, h⟩ := gd h
  refine wgo ?_
  repeat refine cj ?_
  obtain ⟨y24_3, hy24_3, h⟩ := bd h
  refine aCall_of (book_Acc.spec hy24_3) ?_
  refine wgo ?_
  repeat refine cj ?_
  refine kIf3 h (fun hb h => ?_) (fun hb h => ?_)
  refine wgo ?_
  repeat refine cj ?_
  refine kIf2 h (fun hb h => ?_) (fun hb h => ?_)
  obtain rfl := Option.some.inj h
  have h := q11
  simp only [Flow.go_ret, Flow.goL_ret] at h
  obtain rfl := Option.some.inj h
  exact fin
  refine wgo ?_
  repeat refine cj ?_
  refine Round.fx (k11, IntKind.i64.wrap (x111_11 + 1)) h (Nat.lt_succ_self k11) ?_
  exact fxs
  obtain rfl := Option.some.inj h
  have h := q11
  simp only [Flow.go_ret, Flow.goL_ret] at h
  obtain rfl := Option.some.inj h
  exact fin
  obtain rfl := Option.some.inj h
  have h := q11
  simp only [Flow.go_out, Flow.goL_out] at h
  try dsimp only at h
  refine wgo ?_
  repeat refine cj ?_
  obtain ⟨y27_2, hy27_2, h⟩ := bd h
  refine aCall_of (slices_ContainsFunc_int64_book_Right_1.spec hy27_2) ?_
  obtain rfl := Option.some.inj h
  exact fin
  obtain rfl := Option.some.inj h
  exact fin
  obtain rfl := Option.some.inj h
  exact fin
  obtain rfl := Option.some.inj h
  exact fin
  obtain rfl := Option.some.inj h
  exact fin
  obtain rfl := Option.some.inj h
  exact fin
  obtain rfl := Option.some.inj h
  exact fin
end Go.Ax

/- The walk of ledger_Get, printed by gen.py. -/
set_option linter.unusedSimpArgs false
set_option linter.unusedVariables false
namespace Go.Ax
open Go Go.Proofs
set_option maxRecDepth 100000
set_option maxHeartbeats 4000000
theorem ledger_Get.spec {a0 : List api_Row} {a1 : Int} {a2 : Int} {r : Int} (h : ledger_Get.f a0 a1 a2 = some r) : FSpec Try.prog 39 [(false, [.l (rowsD api_Row.D a0)]), (false, [.v (.int .i64 a1)]), (false, [.v (.int .i64 a2)])] [.one (.d (.v (.int .i64 r)))] := by
  unfold ledger_Get.f at h
  refine fspec_data mixed Try.func39 rfl (by decide) [0, 1, 2, 6, 8, 12, 13, 14] (rs := [.tmp 6]) rfl (by decide) (n := 31) rfl (by simp) ?_
  refine wgo ?_
  repeat refine cj ?_
  obtain ⟨y1_1, hy1_1, h⟩ := bd h
  refine aCall_of (ledger_Right.spec hy1_1) ?_
  refine wgo ?_
  repeat refine cj ?_
  refine kIf2 h (fun hb h => ?_) (fun hb h => ?_)
  obtain rfl := Option.some.inj h
  exact fin
  refine wgo ?_
  repeat refine cj ?_
  obtain ⟨f1, h1, q1⟩ := bd h
  rw [aCode_loop]
  refine aLoop_fx (α := Nat × Int) (fun p => (⟨31, [], [(0, .one (.l (rowsD api_Row.D a0))), (1, .one (.v (.int .i64 a1))), (2, .one (.v (.int .i64 a2))), (6, .one (.v (.int .i64 0))), (8, .none), (12, .one (.l (rowsD api_Row.D a0))), (13, .one (.v (.int .i64 (a0.length : Int)))), (14, .one (.v (.int .i64 p.2)))]⟩ : S)) (fun p => ledger_Get.l0 a0 a1 a2 p.1 p.2 = some f1) (fun p => p.1) (FUEL, 0) h1 ?_ ?_
  exact fxs
  rintro ⟨k1, x14_1⟩ h
  simp only at h
  obtain _ | k1 := k1
  exact absurd h (by simp [ledger_Get.l0])
  rw [ledger_Get.l0] at h
  refine wgo ?_
  repeat refine cj ?_
  refine kIf2 h (fun hb h => ?_) (fun hb h => ?_)
  obtain ⟨⟨hg5_0_0, hg5_0_1⟩, h⟩ := gd h
  refine wgo ?_
  repeat refine cj ?_
  refine kIf2 h (fun hb h => ?_) (fun hb h => ?_)
  refine wgo ?_
  repeat refine cj ?_
  refine kIf2 h (fun hb h => ?_) (fun hb h => ?_)
  obtain rfl := Option.some.inj h
  have h := q1
  simp only [Flow.go_ret, Flow.goL_ret] at h
  obtain rfl := Option.some.inj h
  exact fin
  refine wgo ?_
  repeat refine cj ?_
  refine Round.fx (k1, IntKind.i64.wrap (x14_1 + 1)) h (Nat.lt_succ_self k1) ?_
  exact fxs
  refine wgo ?_
  repeat refine cj ?_
  refine Round.fx (k1, IntKind.i64.wrap (x14_1 + 1)) h (Nat.lt_succ_self k1) ?_
  exact fxs
  obtain rfl := Option.some.inj h
  have h := q1
  simp only [Flow.go_out, Flow.goL_out] at h
  try dsimp only at h
  obtain rfl := Option.some.inj h
  exact fin
end Go.Ax

/- The walk of standing_Live, printed by gen.py. -/
set_option linter.unusedSimpArgs false
set_option linter.unusedVariables false
namespace Go.Ax
open Go Go.Proofs
set_option maxRecDepth 100000
set_option maxHeartbeats 4000000
theorem standing_Live.spec {a0 : Int} {r : Bool} (h : standing_Live.f a0 = some r) : FSpec Try.prog 38 [(false, [.v (.int .i64 a0)])] [.one (.d (.v (.bool r)))] := by
  unfold standing_Live.f at h
  refine fspec_data mixed Try.func38 rfl (by decide) [0, 2] (rs := [.tmp 2]) rfl (by decide) (n := 9) rfl (by simp) ?_
  refine wgo ?_
  repeat refine cj ?_
  refine kIf3 h (fun hb h => ?_) (fun hb h => ?_)
  obtain rfl := Option.some.inj h
  exact fin
  obtain rfl := Option.some.inj h
  exact fin
end Go.Ax

/- The walk of rank_Tranche, printed by gen.py. -/
set_option linter.unusedSimpArgs false
set_option linter.unusedVariables false
namespace Go.Ax
open Go Go.Proofs
set_option maxRecDepth 100000
set_option maxHeartbeats 4000000
theorem rank_Tranche.spec {a0 : api_Config} {a1 : api_Book} {a2 : List api_Deed} {a3 : Int} {a4 : Int} {r : (List Int) × Int} (h : rank_Tranche.f a0 a1 a2 a3 a4 = some r) : FSpec Try.prog 11 [(true, api_Config.D a0), (true, api_Book.D a1), (false, [.l (rowsD api_Deed.D a2)]), (false, [.v (.int .i64 a3)]), (false, [.v (.int .i64 a4)])] [.one (.d (.l (rowsD i64D r.1))), .one (.d (.v (.int .i64 r.2)))] := by
  unfold rank_Tranche.f at h
  refine fspec_data mixed Try.func11 rfl (by decide) [0, 1, 2, 3, 4, 5, 6, 10, 11, 12, 14, 25, 26, 27] (rs := [.tmp 10, .tmp 11]) rfl (by decide) (n := 63) rfl (by simp) ?_
  refine wgo ?_
  repeat refine cj ?_
  obtain ⟨y1_2, hy1_2, h⟩ := bd h
  refine aCall_of (book_Right.spec hy1_2) ?_
  refine wgo ?_
  repeat refine cj ?_
  refine kIf3 h (fun hb h => ?_) (fun hb h => ?_)
  refine wgo ?_
  repeat refine cj ?_
  obtain ⟨y1_6, hy1_6, h⟩ := bd h
  refine aCall_of (rank_Right.spec hy1_6) ?_
  refine wgo ?_
  repeat refine cj ?_
  refine kIf2 h (fun hb h => ?_) (fun hb h => ?_)
  obtain rfl := Option.some.inj h
  exact fin
  refine wgo ?_
  repeat refine cj ?_
  obtain ⟨s1, h1, q1⟩ := bd h
  rw [aCode_loop]
  refine aLoop_fx (α := Nat × (List Int) × Int) (fun p => (⟨63, [], [(0, .agg (api_Config.D a0)), (1, .agg (api_Book.D a1)), (2, .one (.l (rowsD api_Deed.D a2))), (3, .one (.v (.int .i64 a3))), (4, .one (.v (.int .i64 a4))), (5, .box [.d (.l (rowsD api_Inst.D a0.Insts)), .d (.v (.int .i64 a0.Skin)), .d (.v (.int .i64 a0.Times)), .d (.v (.int .i64 a0.Port)), .d (.v (.int .i64 a0.Bid)), .d (.v (.int .i64 a0.LotSize)), .d (.v (.int .i64 a0.HedgeMin))]), (6, .box [.d (.l (rowsD api_Member.D a1.Members)), .d (.l (rowsD api_Acc.D a1.Accs)), .d (.l (rowsD api_Row.D a1.Rows)), .d (.l (rowsD api_Pos.D a1.Stock)), .d (.l (rowsD i64D a1.Prices)), .d (.l (rowsD api_Order.D a1.Orders))]), (10, .own 1 (rowsD i64D ([] : List Int))), (11, .one (.v (.int .i64 0))), (12, .own 1 (rowsD i64D p.2.1)), (14, .none), (25, .one (.l (rowsD api_Member.D a1.Members))), (26, .one (.v (.int .i64 (a1.Members.length : Int)))), (27, .one (.v (.int .i64 p.2.2)))]⟩ : S)) (fun p => rank_Tranche.l0 a1 a2 a3 a4 p.1 p.2.1 p.2.2 = some s1) (fun p => p.1) (FUEL, ([] : List Int), 0) h1 ?_ ?_
  exact fxs
  rintro ⟨k1, x12_1, x27_1⟩ h
  simp only at h
  obtain _ | k1 := k1
  exact absurd h (by simp [rank_Tranche.l0])
  rw [rank_Tranche.l0] at h
  refine wgo ?_
  repeat refine cj ?_
  refine kIf2 h (fun hb h => ?_) (fun hb h => ?_)
  obtain ⟨⟨hg6_0_0, hg6_0_1⟩, h⟩ := gd h
  refine wgo ?_
  repeat refine cj ?_
  refine kIf2 h (fun hb h => ?_) (fun hb h => ?_)
  refine wgo ?_
  repeat refine cj ?_
  obtain ⟨y7_7, hy7_7, h⟩ := bd h
  refine aCall_of (standing_Live.spec hy7_7) ?_
  refine wgo ?_
  repeat refine cj ?_
  refine kIf2 h (fun hb h => ?_) (fun hb h => ?_)
  refine wgo ?_
  repeat refine cj ?_
  obtain ⟨y7_13, hy7_13, h⟩ := bd h
  refine aCall_of (rank_Class.spec hy7_13) ?_
  refine wgo ?_
  repeat refine cj ?_
  refine kIf2 h (fun hb h => ?_) (fun hb h => ?_)
  refine wgo ?_
  repeat refine cj ?_
  obtain ⟨y7_22, hy7_22, h⟩ := bd h
  refine aCall_of (ledger_Get.spec hy7_22) ?_
  refine wgo ?_
  repeat refine cj ?_
  refine kIf2 h (fun hb h => ?_) (fun hb h => ?_)
  obtain ⟨hg8_4, h⟩ := gd h
  refine wgo ?_
  repeat refine cj ?_
  refine Round.fx (k1, x12_1 ++ ([(rd a1.Members x27_1).Id]), IntKind.i64.wrap (x27_1 + 1)) h (Nat.lt_succ_self k1) ?_
  exact fxs
  refine wgo ?_
  repeat refine cj ?_
  refine Round.fx (k1, x12_1, IntKind.i64.wrap (x27_1 + 1)) h (Nat.lt_succ_self k1) ?_
  exact fxs
  refine wgo ?_
  repeat refine cj ?_
  refine Round.fx (k1, x12_1, IntKind.i64.wrap (x27_1 + 1)) h (Nat.lt_succ_self k1) ?_
  exact fxs
  refine wgo ?_
  repeat refine cj ?_
  refine Round.fx (k1, x12_1, IntKind.i64.wrap (x27_1 + 1)) h (Nat.lt_succ_self k1) ?_
  exact fxs
  refine wgo ?_
  repeat refine cj ?_
  refine Round.fx (k1, x12_1, IntKind.i64.wrap (x27_1 + 1)) h (Nat.lt_succ_self k1) ?_
  exact fxs
  obtain rfl := Option.some.inj h
  have h := q1
  try dsimp only at h
  obtain rfl := Option.some.inj h
  exact fin
  obtain rfl := Option.some.inj h
  exact fin
end Go.Ax
