/- The walk of novationref15_RightBook, printed by gen.py. -/
import Derived.Test.YtjmoeebaehjmnaaGreatGa
import Derived.Test.YtjmoeebaehjmnaaGreatGs
import Derived.Test.YtjmoeebaehjmnaaGreatWj
import Derived.Test.YtjmoeebaehjmnaaGreatWk
import Derived.Test.YtjmoeebaehjmnaaGreatWi
set_option linter.unusedVariables false
set_option linter.unusedSimpArgs false
set_option linter.unusedSimpArgs false
set_option linter.unusedVariables false
namespace Go.Ax
open Go Go.Proofs
set_option maxRecDepth 100000
set_option maxHeartbeats 4000000
theorem novationref15_RightBook.spec {a0 : api_Config} {a1 : api_Book} {r : Bool} (h : novationref15_RightBook.f a0 a1 = some r) : FSpec Tryz.prog 52 [(true, api_Config.D a0), (true, api_Book.D a1)] [.one (.d (.v (.bool r)))] := by
  unfold novationref15_RightBook.f at h
  refine fspec_data mixed Tryz.func52 rfl (by decide) [0, 1, 2, 3, 4, 5, 6, 7, 8, 9] (rs := [.tmp 4]) rfl (by decide) (n := 163) rfl (by simp) ?_
  refine wgo ?_
  repeat refine cj ?_
  obtain ⟨y1_1, hy1_1, h⟩ := bd h
  refine aCall_of (novationref4_RightPlan.spec hy1_1) ?_
  refine wgo ?_
  repeat refine cj ?_
  refine kIf3 h (fun hb h => ?_) (fun hb h => ?_)
  refine wgo ?_
  repeat refine cj ?_
  obtain ⟨y1_8, hy1_8, h⟩ := bd h
  refine aCall_of (novationref10_RightRoll.spec hy1_8) ?_
  refine wgo ?_
  repeat refine cj ?_
  refine kIf3 h (fun hb h => ?_) (fun hb h => ?_)
  refine wgo ?_
  repeat refine cj ?_
  obtain ⟨y1_14, hy1_14, h⟩ := bd h
  refine aCall_of (novationref10_Rows.spec hy1_14) ?_
  refine wgo ?_
  repeat refine cj ?_
  refine kIf3 h (fun hb h => ?_) (fun hb h => ?_)
  refine wgo ?_
  repeat refine cj ?_
  obtain ⟨y1_20, hy1_20, h⟩ := bd h
  refine aCall_of (novationref10_Flat.spec hy1_20) ?_
  refine wgo ?_
  repeat refine cj ?_
  refine kIf3 h (fun hb h => ?_) (fun hb h => ?_)
  refine wgo ?_
  repeat refine cj ?_
  obtain ⟨y1_26, hy1_26, h⟩ := bd h
  refine aCall_of (novationref15_Orders.spec hy1_26) ?_
  refine wgo ?_
  repeat refine cj ?_
  refine kIf3 h (fun hb h => ?_) (fun hb h => ?_)
  refine wgo ?_
  repeat refine cj ?_
  refine kIf2 h (fun hb h => ?_) (fun hb h => ?_)
  obtain rfl := Option.some.inj h
  exact fin
  refine wgo ?_
  repeat refine cj ?_
  obtain ⟨y3_2, hy3_2, h⟩ := bd h
  refine aCall_of (novationref10_Total.spec hy3_2) ?_
  refine wgo ?_
  repeat refine cj ?_
  obtain ⟨y3_3, hy3_3, h⟩ := bd h
  refine aCall_of (novationref1_Sign.spec hy3_3) ?_
  refine wgo ?_
  repeat refine cj ?_
  refine kIf2 h (fun hb h => ?_) (fun hb h => ?_)
  obtain rfl := Option.some.inj h
  exact fin
  refine wgo ?_
  repeat refine cj ?_
  obtain ⟨f2, h2, q2⟩ := bd h
  rw [aCode_loop]
  refine aLoop_fx (α := Nat × Int) (fun p => (⟨163, [], [(0, .agg (api_Config.D a0)), (1, .agg (api_Book.D a1)), (2, .box [.d (.l (rowsD api_Inst.D a0.Insts)), .d (.v (.int .i64 a0.Skin)), .d (.v (.int .i64 a0.Times)), .d (.v (.int .i64 a0.Port)), .d (.v (.int .i64 a0.Bid)), .d (.v (.int .i64 a0.LotSize)), .d (.v (.int .i64 a0.HedgeMin))]), (3, .box [.d (.l (rowsD api_Member.D a1.Members)), .d (.l (rowsD api_Acc.D a1.Accs)), .d (.l (rowsD api_Row.D a1.Rows)), .d (.l (rowsD api_Pos.D a1.Stock)), .d (.l (rowsD i64D a1.Prices)), .d (.l (rowsD api_Order.D a1.Orders))]), (4, .one (.v (.bool false))), (5, .one (.v (.int .i64 p.2))), (6, .none), (7, .none), (8, .none), (9, .none)]⟩ : S)) (fun p => novationref15_RightBook.l0 a1 p.1 p.2 = some f2) (fun p => p.1) (FUEL, 0) h2 ?_ ?_
  exact fxs
  rintro ⟨k2, x5_2⟩ h
  simp only at h
  obtain _ | k2 := k2
  exact absurd h (by simp [novationref15_RightBook.l0])
  rw [novationref15_RightBook.l0] at h
  refine wgo ?_
  repeat refine cj ?_
  refine kIf2 h (fun hb h => ?_) (fun hb h => ?_)
  obtain ⟨⟨hg8_3_0, hg8_3_1⟩, h⟩ := gd h
  refine wgo ?_
  repeat refine cj ?_
  refine kIf2 h (fun hb h => ?_) (fun hb h => ?_)
  refine wgo ?_
  repeat refine cj ?_
  obtain ⟨y9_7, hy9_7, h⟩ := bd h
  refine aCall_of (novationref15_there.spec hy9_7) ?_
  refine wgo ?_
  repeat refine cj ?_
  refine kIf3 h (fun hb h => ?_) (fun hb h => ?_)
  refine wgo ?_
  repeat refine cj ?_
  refine kIf3 h (fun hb h => ?_) (fun hb h => ?_)
  refine wgo ?_
  repeat refine cj ?_
  refine kIf2 h (fun hb h => ?_) (fun hb h => ?_)
  refine wgo ?_
  repeat refine cj ?_
  obtain ⟨y9_24, hy9_24, h⟩ := bd h
  refine aCall_of (novationref10_Status.spec hy9_24) ?_
  refine wgo ?_
  repeat refine cj ?_
  refine kIf2 h (fun hb h => ?_) (fun hb h => ?_)
  obtain rfl := Option.some.inj h
  have h := q2
  simp only [Flow.go_ret, Flow.goL_ret] at h
  obtain rfl := Option.some.inj h
  exact fin
  refine wgo ?_
  repeat refine cj ?_
  refine Round.fx (k2, IntKind.i64.wrap (x5_2 + 1)) h (Nat.lt_succ_self k2) ?_
  exact fxs
  refine wgo ?_
  repeat refine cj ?_
  refine Round.fx (k2, IntKind.i64.wrap (x5_2 + 1)) h (Nat.lt_succ_self k2) ?_
  exact fxs
  refine wgo ?_
  repeat refine cj ?_
  obtain ⟨y9_24, hy9_24, h⟩ := bd h
  refine aCall_of (novationref10_Status.spec hy9_24) ?_
  refine wgo ?_
  repeat refine cj ?_
  refine kIf2 h (fun hb h => ?_) (fun hb h => ?_)
  obtain rfl := Option.some.inj h
  have h := q2
  simp only [Flow.go_ret, Flow.goL_ret] at h
  obtain rfl := Option.some.inj h
  exact fin
  refine wgo ?_
  repeat refine cj ?_
  refine Round.fx (k2, IntKind.i64.wrap (x5_2 + 1)) h (Nat.lt_succ_self k2) ?_
  exact fxs
  obtain rfl := Option.some.inj h
  have h := q2
  simp only [Flow.go_ret, Flow.goL_ret] at h
  obtain rfl := Option.some.inj h
  exact fin
  refine wgo ?_
  repeat refine cj ?_
  refine kIf3 h (fun hb h => ?_) (fun hb h => ?_)
  refine wgo ?_
  repeat refine cj ?_
  refine kIf2 h (fun hb h => ?_) (fun hb h => ?_)
  refine wgo ?_
  repeat refine cj ?_
  obtain ⟨y9_24, hy9_24, h⟩ := bd h
  refine aCall_of (novationref10_Status.spec hy9_24) ?_
  refine wgo ?_
  repeat refine cj ?_
  refine kIf2 h (fun hb h => ?_) (fun hb h => ?_)
  obtain rfl := Option.some.inj h
  have h := q2
  simp only [Flow.go_ret, Flow.goL_ret] at h
  obtain rfl := Option.some.inj h
  exact fin
  refine wgo ?_
  repeat refine cj ?_
  refine Round.fx (k2, IntKind.i64.wrap (x5_2 + 1)) h (Nat.lt_succ_self k2) ?_
  exact fxs
  refine wgo ?_
  repeat refine cj ?_
  refine Round.fx (k2, IntKind.i64.wrap (x5_2 + 1)) h (Nat.lt_succ_self k2) ?_
  exact fxs
  refine wgo ?_
  repeat refine cj ?_
  obtain ⟨y9_24, hy9_24, h⟩ := bd h
  refine aCall_of (novationref10_Status.spec hy9_24) ?_
  refine wgo ?_
  repeat refine cj ?_
  refine kIf2 h (fun hb h => ?_) (fun hb h => ?_)
  obtain rfl := Option.some.inj h
  have h := q2
  simp only [Flow.go_ret, Flow.goL_ret] at h
  obtain rfl := Option.some.inj h
  exact fin
  refine wgo ?_
  repeat refine cj ?_
  refine Round.fx (k2, IntKind.i64.wrap (x5_2 + 1)) h (Nat.lt_succ_self k2) ?_
  exact fxs
  obtain rfl := Option.some.inj h
  have h := q2
  simp only [Flow.go_out, Flow.goL_out] at h
  try dsimp only at h
  refine wgo ?_
  repeat refine cj ?_
  obtain ⟨f5, h5, q5⟩ := bd h
  rw [aCode_loop]
  refine aLoop_fx (α := Nat × Int) (fun p => (⟨163, [], [(0, .agg (api_Config.D a0)), (1, .agg (api_Book.D a1)), (2, .box [.d (.l (rowsD api_Inst.D a0.Insts)), .d (.v (.int .i64 a0.Skin)), .d (.v (.int .i64 a0.Times)), .d (.v (.int .i64 a0.Port)), .d (.v (.int .i64 a0.Bid)), .d (.v (.int .i64 a0.LotSize)), .d (.v (.int .i64 a0.HedgeMin))]), (3, .box [.d (.l (rowsD api_Member.D a1.Members)), .d (.l (rowsD api_Acc.D a1.Accs)), .d (.l (rowsD api_Row.D a1.Rows)), .d (.l (rowsD api_Pos.D a1.Stock)), .d (.l (rowsD i64D a1.Prices)), .d (.l (rowsD api_Order.D a1.Orders))]), (4, .one (.v (.bool false))), (5, .one (.v (.int .i64 x5_2))), (6, .none), (7, .one (.v (.int .i64 p.2))), (8, .none), (9, .none)]⟩ : S)) (fun p => novationref15_RightBook.l1 a0 a1 p.1 p.2 = some f5) (fun p => p.1) (FUEL, 0) h5 ?_ ?_
  exact fxs
  rintro ⟨k5, x7_5⟩ h
  simp only at h
  obtain _ | k5 := k5
  exact absurd h (by simp [novationref15_RightBook.l1])
  rw [novationref15_RightBook.l1] at h
  refine wgo ?_
  repeat refine cj ?_
  refine kIf2 h (fun hb h => ?_) (fun hb h => ?_)
  obtain ⟨⟨hg14_4_0, hg14_4_1⟩, h⟩ := gd h
  refine wgo ?_
  repeat refine cj ?_
  obtain ⟨y14_7, hy14_7, h⟩ := bd h
  refine aCall_of (novationref15_there.spec hy14_7) ?_
  refine wgo ?_
  repeat refine cj ?_
  refine kIf3 h (fun hb h => ?_) (fun hb h => ?_)
  refine wgo ?_
  repeat refine cj ?_
  refine kIf2 h (fun hb h => ?_) (fun hb h => ?_)
  obtain rfl := Option.some.inj h
  have h := q5
  simp only [Flow.go_ret, Flow.goL_ret] at h
  obtain rfl := Option.some.inj h
  exact fin
  refine wgo ?_
  repeat refine cj ?_
  refine Round.fx (k5, IntKind.i64.wrap (x7_5 + 1)) h (Nat.lt_succ_self k5) ?_
  exact fxs
  obtain rfl := Option.some.inj h
  have h := q5
  simp only [Flow.go_ret, Flow.goL_ret] at h
  obtain rfl := Option.some.inj h
  exact fin
  obtain rfl := Option.some.inj h
  have h := q5
  simp only [Flow.go_out, Flow.goL_out] at h
  try dsimp only at h
  refine wgo ?_
  repeat refine cj ?_
  obtain ⟨f8, h8, q8⟩ := bd h
  rw [aCode_loop]
  refine aLoop_fx (α := Nat × Int) (fun p => (⟨163, [], [(0, .agg (api_Config.D a0)), (1, .agg (api_Book.D a1)), (2, .box [.d (.l (rowsD api_Inst.D a0.Insts)), .d (.v (.int .i64 a0.Skin)), .d (.v (.int .i64 a0.Times)), .d (.v (.int .i64 a0.Port)), .d (.v (.int .i64 a0.Bid)), .d (.v (.int .i64 a0.LotSize)), .d (.v (.int .i64 a0.HedgeMin))]), (3, .box [.d (.l (rowsD api_Member.D a1.Members)), .d (.l (rowsD api_Acc.D a1.Accs)), .d (.l (rowsD api_Row.D a1.Rows)), .d (.l (rowsD api_Pos.D a1.Stock)), .d (.l (rowsD i64D a1.Prices)), .d (.l (rowsD api_Order.D a1.Orders))]), (4, .one (.v (.bool false))), (5, .one (.v (.int .i64 x5_2))), (6, .none), (7, .one (.v (.int .i64 x7_5))), (8, .one (.v (.int .i64 p.2))), (9, .none)]⟩ : S)) (fun p => novationref15_RightBook.l2 a1 p.1 p.2 = some f8) (fun p => p.1) (FUEL, 0) h8 ?_ ?_
  exact fxs
  rintro ⟨k8, x8_8⟩ h
  simp only at h
  obtain _ | k8 := k8
  exact absurd h (by simp [novationref15_RightBook.l2])
  rw [novationref15_RightBook.l2] at h
  refine wgo ?_
  repeat refine cj ?_
  refine kIf2 h (fun hb h => ?_) (fun hb h => ?_)
  obtain ⟨⟨hg19_3_0, hg19_3_1⟩, h⟩ := gd h
  refine wgo ?_
  repeat refine cj ?_
  obtain ⟨y19_5, hy19_5, h⟩ := bd h
  refine aCall_of (novationref15_price.spec hy19_5) ?_
  refine wgo ?_
  repeat refine cj ?_
  refine kIf2 h (fun hb h => ?_) (fun hb h => ?_)
  obtain rfl := Option.some.inj h
  have h := q8
  simp only [Flow.go_ret, Flow.goL_ret] at h
  obtain rfl := Option.some.inj h
  exact fin
  refine wgo ?_
  repeat refine cj ?_
  refine Round.fx (k8, IntKind.i64.wrap (x8_8 + 1)) h (Nat.lt_succ_self k8) ?_
  exact fxs
  obtain rfl := Option.some.inj h
  have h := q8
  simp only [Flow.go_out, Flow.goL_out] at h
  try dsimp only at h
  refine wgo ?_
  repeat refine cj ?_
  obtain ⟨f11, h11, q11⟩ := bd h
  rw [aCode_loop]
  refine aLoop_fx (α := Nat × Int) (fun p => (⟨163, [], [(0, .agg (api_Config.D a0)), (1, .agg (api_Book.D a1)), (2, .box [.d (.l (rowsD api_Inst.D a0.Insts)), .d (.v (.int .i64 a0.Skin)), .d (.v (.int .i64 a0.Times)), .d (.v (.int .i64 a0.Port)), .d (.v (.int .i64 a0.Bid)), .d (.v (.int .i64 a0.LotSize)), .d (.v (.int .i64 a0.HedgeMin))]), (3, .box [.d (.l (rowsD api_Member.D a1.Members)), .d (.l (rowsD api_Acc.D a1.Accs)), .d (.l (rowsD api_Row.D a1.Rows)), .d (.l (rowsD api_Pos.D a1.Stock)), .d (.l (rowsD i64D a1.Prices)), .d (.l (rowsD api_Order.D a1.Orders))]), (4, .one (.v (.bool false))), (5, .one (.v (.int .i64 x5_2))), (6, .none), (7, .one (.v (.int .i64 x7_5))), (8, .one (.v (.int .i64 x8_8))), (9, .one (.v (.int .i64 p.2)))]⟩ : S)) (fun p => novationref15_RightBook.l3 a0 a1 p.1 p.2 = some f11) (fun p => p.1) (FUEL, 0) h11 ?_ ?_
  exact fxs
  rintro ⟨k11, x9_11⟩ h
  simp only at h
  obtain _ | k11 := k11
  exact absurd h (by simp [novationref15_RightBook.l3])
  rw [novationref15_RightBook.l3] at h
  refine wgo ?_
  repeat refine cj ?_
  refine kIf2 h (fun hb h => ?_) (fun hb h => ?_)
  obtain ⟨⟨hg24_4_0, hg24_4_1⟩, h⟩ := gd h
  refine wgo ?_
  repeat refine cj ?_
  obtain ⟨y24_7, hy24_7, h⟩ := bd h
  refine aCall_of (novationref15_there.spec hy24_7) ?_
  refine wgo ?_
  repeat refine cj ?_
  refine kIf3 h (fun hb h => ?_) (fun hb h => ?_)
  refine wgo ?_
  repeat refine cj ?_
  refine kIf2 h (fun hb h => ?_) (fun hb h => ?_)
  obtain rfl := Option.some.inj h
  have h := q11
  simp only [Flow.go_ret, Flow.goL_ret] at h
  obtain rfl := Option.some.inj h
  exact fin
  refine wgo ?_
  repeat refine cj ?_
  refine Round.fx (k11, IntKind.i64.wrap (x9_11 + 1)) h (Nat.lt_succ_self k11) ?_
  exact fxs
  obtain rfl := Option.some.inj h
  have h := q11
  simp only [Flow.go_ret, Flow.goL_ret] at h
  obtain rfl := Option.some.inj h
  exact fin
  obtain rfl := Option.some.inj h
  have h := q11
  simp only [Flow.go_out, Flow.goL_out] at h
  try dsimp only at h
  obtain rfl := Option.some.inj h
  exact fin
  obtain rfl := Option.some.inj h
  exact fin
  obtain rfl := Option.some.inj h
  exact fin
  obtain rfl := Option.some.inj h
  exact fin
  obtain rfl := Option.some.inj h
  exact fin
  obtain rfl := Option.some.inj h
  exact fin
end Go.Ax

/- The walk of novationref10_Get, printed by gen.py. -/
set_option linter.unusedSimpArgs false
set_option linter.unusedVariables false
namespace Go.Ax
open Go Go.Proofs
set_option maxRecDepth 100000
set_option maxHeartbeats 4000000
theorem novationref10_Get.spec {a0 : List api_Row} {a1 : Int} {a2 : Int} {r : Int} (h : novationref10_Get.f a0 a1 a2 = some r) : FSpec Tryz.prog 101 [(false, [.l (rowsD api_Row.D a0)]), (false, [.v (.int .i64 a1)]), (false, [.v (.int .i64 a2)])] [.one (.d (.v (.int .i64 r)))] := by
  unfold novationref10_Get.f at h
  refine fspec_data mixed Tryz.func101 rfl (by decide) [0, 1, 2, 6, 7] (rs := [.tmp 6]) rfl (by decide) (n := 38) rfl (by simp) ?_
  refine wgo ?_
  repeat refine cj ?_
  obtain ⟨y1_1, hy1_1, h⟩ := bd h
  refine aCall_of (novationref10_Rows.spec hy1_1) ?_
  refine wgo ?_
  repeat refine cj ?_
  refine kIf2 h (fun hb h => ?_) (fun hb h => ?_)
  obtain rfl := Option.some.inj h
  exact fin
  refine wgo ?_
  repeat refine cj ?_
  obtain ⟨f1, h1, q1⟩ := bd h
  rw [aCode_loop]
  refine aLoop_fx (α := Nat × Int) (fun p => (⟨38, [], [(0, .one (.l (rowsD api_Row.D a0))), (1, .one (.v (.int .i64 a1))), (2, .one (.v (.int .i64 a2))), (6, .one (.v (.int .i64 0))), (7, .one (.v (.int .i64 p.2)))]⟩ : S)) (fun p => novationref10_Get.l0 a0 a1 a2 p.1 p.2 = some f1) (fun p => p.1) (FUEL, 0) h1 ?_ ?_
  exact fxs
  rintro ⟨k1, x7_1⟩ h
  simp only at h
  obtain _ | k1 := k1
  exact absurd h (by simp [novationref10_Get.l0])
  rw [novationref10_Get.l0] at h
  refine wgo ?_
  repeat refine cj ?_
  refine kIf2 h (fun hb h => ?_) (fun hb h => ?_)
  obtain ⟨⟨hg6_2_0, hg6_2_1⟩, h⟩ := gd h
  refine wgo ?_
  repeat refine cj ?_
  refine kIf2 h (fun hb h => ?_) (fun hb h => ?_)
  refine wgo ?_
  repeat refine cj ?_
  refine kIf2 h (fun hb h => ?_) (fun hb h => ?_)
  obtain rfl := Option.some.inj h
  have h := q1
  simp only [Flow.go_ret, Flow.goL_ret] at h
  obtain rfl := Option.some.inj h
  exact fin
  refine wgo ?_
  repeat refine cj ?_
  refine Round.fx (k1, IntKind.i64.wrap (x7_1 + 1)) h (Nat.lt_succ_self k1) ?_
  exact fxs
  refine wgo ?_
  repeat refine cj ?_
  refine Round.fx (k1, IntKind.i64.wrap (x7_1 + 1)) h (Nat.lt_succ_self k1) ?_
  exact fxs
  obtain rfl := Option.some.inj h
  have h := q1
  simp only [Flow.go_out, Flow.goL_out] at h
  try dsimp only at h
  obtain rfl := Option.some.inj h
  exact fin
end Go.Ax

/- The walk of novationref20_margin, printed by gen.py. -/
set_option linter.unusedSimpArgs false
set_option linter.unusedVariables false
namespace Go.Ax
open Go Go.Proofs
set_option maxRecDepth 100000
set_option maxHeartbeats 4000000
theorem novationref20_margin.spec {a0 : api_Book} {a1 : Int} {r : Int} (h : novationref20_margin.f a0 a1 = some r) : FSpec Tryz.prog 64 [(true, api_Book.D a0), (false, [.v (.int .i64 a1)])] [.one (.d (.v (.int .i64 r)))] := by
  unfold novationref20_margin.f at h
  refine fspec_data mixed Tryz.func64 rfl (by decide) [0, 1, 2, 4] (rs := [.tmp 4]) rfl (by decide) (n := 9) rfl (by simp) ?_
  refine wgo ?_
  repeat refine cj ?_
  obtain ⟨y1_3, hy1_3, h⟩ := bd h
  refine aCall_of (novationref10_Get.spec hy1_3) ?_
  obtain rfl := Option.some.inj h
  exact fin
end Go.Ax

/- The walk of novationref20_member, printed by gen.py. -/
set_option linter.unusedSimpArgs false
set_option linter.unusedVariables false
namespace Go.Ax
open Go Go.Proofs
set_option maxRecDepth 100000
set_option maxHeartbeats 4000000
theorem novationref20_member.spec {a0 : api_Book} {a1 : Int} {r : Int} (h : novationref20_member.f a0 a1 = some r) : FSpec Tryz.prog 53 [(true, api_Book.D a0), (false, [.v (.int .i64 a1)])] [.one (.d (.v (.int .i64 r)))] := by
  unfold novationref20_member.f at h
  refine fspec_data mixed Tryz.func53 rfl (by decide) [0, 1, 2, 4] (rs := [.tmp 4]) rfl (by decide) (n := 9) rfl (by simp) ?_
  refine wgo ?_
  repeat refine cj ?_
  obtain ⟨y1_3, hy1_3, h⟩ := bd h
  refine aCall_of (novationref10_Status.spec hy1_3) ?_
  obtain rfl := Option.some.inj h
  exact fin
end Go.Ax
