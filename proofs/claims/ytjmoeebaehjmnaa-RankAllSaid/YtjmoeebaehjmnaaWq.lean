/- The walk of novationref15_RightBook, printed by gen.py. -/
import Derived.Test.YtjmoeebaehjmnaaGa
import Derived.Test.YtjmoeebaehjmnaaGs
import Derived.Test.YtjmoeebaehjmnaaWn
import Derived.Test.YtjmoeebaehjmnaaWo
import Derived.Test.YtjmoeebaehjmnaaWp
import Derived.Test.YtjmoeebaehjmnaaWk
import Derived.Test.YtjmoeebaehjmnaaWj
set_option linter.unusedVariables false
set_option linter.unusedSimpArgs false
set_option linter.unusedSimpArgs false
set_option linter.unusedVariables false
namespace Go.Ax
open Go Go.Proofs
set_option maxRecDepth 100000
set_option maxHeartbeats 4000000
theorem novationref15_RightBook.spec {a0 : api_Config} {a1 : api_Book} {r : Bool} (h : novationref15_RightBook.f a0 a1 = some r) : FSpec Try.prog 44 [(true, api_Config.D a0), (true, api_Book.D a1)] [.one (.d (.v (.bool r)))] := by
  unfold novationref15_RightBook.f at h
  refine fspec_data mixed Try.func44 rfl (by decide) [0, 1, 2, 3, 4, 5, 6, 7, 8, 9] (rs := [.tmp 4]) rfl (by decide) (n := 163) rfl (by simp) ?_
  refine wgo ?_
  repeat refine cj ?_
  obtain ⟨y1_1, hy1_1, h⟩ := bd h
  refine aCall_of (novationref4_RightPlan.spec hy1_1) ?_
  refine wgo ?_
  repeat refine cj ?_
  refine kIf3 h (fun hb h => ?_) (fun hb h => ?_)
  refine wgo ?_
  repeat refine cj ?_
  obtain ⟨y1_8, hy1_8, h⟩ := bd h
  refine aCall_of (novationref10_RightRoll.spec hy1_8) ?_
  refine wgo ?_
  repeat refine cj ?_
  refine kIf3 h (fun hb h => ?_) (fun hb h => ?_)
  refine wgo ?_
  repeat refine cj ?_
  obtain ⟨y1_14, hy1_14, h⟩ := bd h
  refine aCall_of (novationref10_Rows.spec hy1_14) ?_
  refine wgo ?_
  repeat refine cj ?_
  refine kIf3 h (fun hb h => ?_) (fun hb h => ?_)
  refine wgo ?_
  repeat refine cj ?_
  obtain ⟨y1_20, hy1_20, h⟩ := bd h
  refine aCall_of (novationref10_Flat.spec hy1_20) ?_
  refine wgo ?_
  repeat refine cj ?_
  refine kIf3 h (fun hb h => ?_) (fun hb h => ?_)
  refine wgo ?_
  repeat refine cj ?_
  obtain ⟨y1_26, hy1_26, h⟩ := bd h
  refine aCall_of (novationref15_Orders.spec hy1_26) ?_
  refine wgo ?_
  repeat refine cj ?_
  refine kIf3 h (fun hb h => ?_) (fun hb h => ?_)
  refine wgo ?_
  repeat refine cj ?_
  refine kIf2 h (fun hb h => ?_) (fun hb h => ?_)
  obtain rfl := Option.some.inj h
  exact fin
  refine wgo ?_
  repeat refine cj ?_
  obtain ⟨y3_2, hy3_2, h⟩ := bd h
  refine aCall_of (novationref10_Total.spec hy3_2) ?_
  refine wgo ?_
  repeat refine cj ?_
  obtain ⟨y3_3, hy3_3, h⟩ := bd h
  refine aCall_of (novationref1_Sign.spec hy3_3) ?_
  refine wgo ?_
  repeat refine cj ?_
  refine kIf2 h (fun hb h => ?_) (fun hb h => ?_)
  obtain rfl := Option.some.inj h
  exact fin
  refine wgo ?_
  repeat refine cj ?_
  obtain ⟨f2, h2, q2⟩ := bd h
  rw [aCode_loop]
  refine aLoop_fx (α := Nat × Int) (fun p => (⟨163, [], [(0, .agg (api_Config.D a0)), (1, .agg (api_Book.D a1)), (2, .box [.d (.l (rowsD api_Inst.D a0.Insts)), .d (.v (.int .i64 a0.Skin)), .d (.v (.int .i64 a0.Times)), .d (.v (.int .i64 a0.Port)), .d (.v (.int .i64 a0.Bid)), .d (.v (.int .i64 a0.LotSize)), .d (.v (.int .i64 a0.HedgeMin))]), (3, .box [.d (.l (rowsD api_Member.D a1.Members)), .d (.l (rowsD api_Acc.D a1.Accs)), .d (.l (rowsD api_Row.D a1.Rows)), .d (.l (rowsD api_Pos.D a1.Stock)), .d (.l (rowsD i64D a1.Prices)), .d (.l (rowsD api_Order.D a1.Orders))]), (4, .one (.v (.bool false))), (5, .one (.v (.int .i64 p.2))), (6, .none), (7, .none), (8, .none), (9, .none)]⟩ : S)) (fun p => novationref15_RightBook.l0 a1 p.1 p.2 = some f2) (fun p => p.1) (FUEL, 0) h2 ?_ ?_
  exact fxs
  rintro ⟨k2, x5_2⟩ h
  simp only at h
  obtain _ | k2 := k2
  exact absurd h (by simp [novationref15_RightBook.l0])
  rw [novationref15_RightBook.l0] at h
  refine wgo ?_
  repeat refine cj ?_
  refine kIf2 h (fun hb h => ?_) (fun hb h => ?_)
  obtain ⟨⟨hg8_3_0, hg8_3_1⟩, h⟩ := gd h
  refine wgo ?_
  repeat refine cj ?_
  refine kIf2 h (fun hb h => ?_) (fun hb h => ?_)
  refine wgo ?_
  repeat refine cj ?_
  obtain ⟨y9_7, hy9_7, h⟩ := bd h
  refine aCall_of (novationref15_there.spec hy9_7) ?_
  refine wgo ?_
  repeat refine cj ?_
  refine kIf3 h (fun hb h => ?_) (fun hb h => ?_)
  refine wgo ?_
  repeat refine cj ?_
  refine kIf3 h (fun hb h => ?_) (fun hb h => ?_)
  refine wgo ?_
  repeat refine cj ?_
  refine kIf2 h (fun hb h => ?_) (fun hb h => ?_)
  refine wgo ?_
  repeat refine cj ?_
  obtain ⟨y9_24, hy9_24, h⟩ := bd h
  refine aCall_of (novationref10_Status.spec hy9_24) ?_
  refine wgo ?_
  repeat refine cj ?_
  refine kIf2 h (fun hb h => ?_) (fun hb h => ?_)
  obtain rfl := Option.some.inj h
  have h := q2
  simp only [Flow.go_ret, Flow.goL_ret] at h
  obtain rfl := Option.some.inj h
  exact fin
  refine wgo ?_
  repeat refine cj ?_
  refine Round.fx (k2, IntKind.i64.wrap (x5_2 + 1)) h (Nat.lt_succ_self k2) ?_
  exact fxs
  refine wgo ?_
  repeat refine cj ?_
  refine Round.fx (k2, IntKind.i64.wrap (x5_2 + 1)) h (Nat.lt_succ_self k2) ?_
  exact fxs
  refine wgo ?_
  repeat refine cj ?_
  obtain ⟨y9_24, hy9_24, h⟩ := bd h
  refine aCall_of (novationref10_Status.spec hy9_24) ?_
  refine wgo ?_
  repeat refine cj ?_
  refine kIf2 h (fun hb h => ?_) (fun hb h => ?_)
  obtain rfl := Option.some.inj h
  have h := q2
  simp only [Flow.go_ret, Flow.goL_ret] at h
  obtain rfl := Option.some.inj h
  exact fin
  refine wgo ?_
  repeat refine cj ?_
  refine Round.fx (k2, IntKind.i64.wrap (x5_2 + 1)) h (Nat.lt_succ_self k2) ?_
  exact fxs
  obtain rfl := Option.some.inj h
  have h := q2
  simp only [Flow.go_ret, Flow.goL_ret] at h
  obtain rfl := Option.some.inj h
  exact fin
  refine wgo ?_
  repeat refine cj ?_
  refine kIf3 h (fun hb h => ?_) (fun hb h => ?_)
  refine wgo ?_
  repeat refine cj ?_
  refine kIf2 h (fun hb h => ?_) (fun hb h => ?_)
  refine wgo ?_
  repeat refine cj ?_
  obtain ⟨y9_24, hy9_24, h⟩ := bd h
  refine aCall_of (novationref10_Status.spec hy9_24) ?_
  refine wgo ?_
  repeat refine cj ?_
  refine kIf2 h (fun hb h => ?_) (fun hb h => ?_)
  obtain rfl := Option.some.inj h
  have h := q2
  simp only [Flow.go_ret, Flow.goL_ret] at h
  obtain rfl := Option.some.inj h
  exact fin
  refine wgo ?_
  repeat refine cj ?_
  refine Round.fx (k2, IntKind.i64.wrap (x5_2 + 1)) h (Nat.lt_succ_self k2) ?_
  exact fxs
  refine wgo ?_
  repeat refine cj ?_
  refine Round.fx (k2, IntKind.i64.wrap (x5_2 + 1)) h (Nat.lt_succ_self k2) ?_
  exact fxs
  refine wgo ?_
  repeat refine cj ?_
  obtain ⟨y9_24, hy9_24, h⟩ := bd h
  refine aCall_of (novationref10_Status.spec hy9_24) ?_
  refine wgo ?_
  repeat refine cj ?_
  refine kIf2 h (fun hb h => ?_) (fun hb h => ?_)
  obtain rfl := Option.some.inj h
  have h := q2
  simp only [Flow.go_ret, Flow.goL_ret] at h
  obtain rfl := Option.some.inj h
  exact fin
  refine wgo ?_
  repeat refine cj ?_
  refine Round.fx (k2, IntKind.i64.wrap (x5_2 + 1)) h (Nat.lt_succ_self k2) ?_
  exact fxs
  obtain rfl := Option.some.inj h
  have h := q2
  simp only [Flow.go_out, Flow.goL_out] at h
  try dsimp only at h
  refine wgo ?_
  repeat refine cj ?_
  obtain ⟨f5, h5, q5⟩ := bd h
  rw [aCode_loop]
  refine aLoop_fx (α := Nat × Int) (fun p => (⟨163, [], [(0, .agg (api_Config.D a0)), (1, .agg (api_Book.D a1)), (2, .box [.d (.l (rowsD api_Inst.D a0.Insts)), .d (.v (.int .i64 a0.Skin)), .d (.v (.int .i64 a0.Times)), .d (.v (.int .i64 a0.Port)), .d (.v (.int .i64 a0.Bid)), .d (.v (.int .i64 a0.LotSize)), .d (.v (.int .i64 a0.HedgeMin))]), (3, .box [.d (.l (rowsD api_Member.D a1.Members)), .d (.l (rowsD api_Acc.D a1.Accs)), .d (.l (rowsD api_Row.D a1.Rows)), .d (.l (rowsD api_Pos.D a1.Stock)), .d (.l (rowsD i64D a1.Prices)), .d (.l (rowsD api_Order.D a1.Orders))]), (4, .one (.v (.bool false))), (5, .one (.v (.int .i64 x5_2))), (6, .none), (7, .one (.v (.int .i64 p.2))), (8, .none), (9, .none)]⟩ : S)) (fun p => novationref15_RightBook.l1 a0 a1 p.1 p.2 = some f5) (fun p => p.1) (FUEL, 0) h5 ?_ ?_
  exact fxs
  rintro ⟨k5, x7_5⟩ h
  simp only at h
  obtain _ | k5 := k5
  exact absurd h (by simp [novationref15_RightBook.l1])
  rw [novationref15_RightBook.l1] at h
  refine wgo ?_
  repeat refine cj ?_
  refine kIf2 h (fun hb h => ?_) (fun hb h => ?_)
  obtain ⟨⟨hg14_4_0, hg14_4_1⟩, h⟩ := gd h
  refine wgo ?_
  repeat refine cj ?_
  obtain ⟨y14_7, hy14_7, h⟩ := bd h
  refine aCall_of (novationref15_there.spec hy14_7) ?_
  refine wgo ?_
  repeat refine cj ?_
  refine kIf3 h (fun hb h => ?_) (fun hb h => ?_)
  refine wgo ?_
  repeat refine cj ?_
  refine kIf2 h (fun hb h => ?_) (fun hb h => ?_)
  obtain rfl := Option.some.inj h
  have h := q5
  simp only [Flow.go_ret, Flow.goL_ret] at h
  obtain rfl := Option.some.inj h
  exact fin
  refine wgo ?_
  repeat refine cj ?_
  refine Round.fx (k5, IntKind.i64.wrap (x7_5 + 1)) h (Nat.lt_succ_self k5) ?_
  exact fxs
  obtain rfl := Option.some.inj h
  have h := q5
  simp only [Flow.go_ret, Flow.goL_ret] at h
  obtain rfl := Option.some.inj h
  exact fin
  obtain rfl := Option.some.inj h
  have h := q5
  simp only [Flow.go_out, Flow.goL_out] at h
  try dsimp only at h
  refine wgo ?_
  repeat refine cj ?_
  obtain ⟨f8, h8, q8⟩ := bd h
  rw [aCode_loop]
  refine aLoop_fx (α := Nat × Int) (fun p => (⟨163, [], [(0, .agg (api_Config.D a0)), (1, .agg (api_Book.D a1)), (2, .box [.d (.l (rowsD api_Inst.D a0.Insts)), .d (.v (.int .i64 a0.Skin)), .d (.v (.int .i64 a0.Times)), .d (.v (.int .i64 a0.Port)), .d (.v (.int .i64 a0.Bid)), .d (.v (.int .i64 a0.LotSize)), .d (.v (.int .i64 a0.HedgeMin))]), (3, .box [.d (.l (rowsD api_Member.D a1.Members)), .d (.l (rowsD api_Acc.D a1.Accs)), .d (.l (rowsD api_Row.D a1.Rows)), .d (.l (rowsD api_Pos.D a1.Stock)), .d (.l (rowsD i64D a1.Prices)), .d (.l (rowsD api_Order.D a1.Orders))]), (4, .one (.v (.bool false))), (5, .one (.v (.int .i64 x5_2))), (6, .none), (7, .one (.v (.int .i64 x7_5))), (8, .one (.v (.int .i64 p.2))), (9, .none)]⟩ : S)) (fun p => novationref15_RightBook.l2 a1 p.1 p.2 = some f8) (fun p => p.1) (FUEL, 0) h8 ?_ ?_
  exact fxs
  rintro ⟨k8, x8_8⟩ h
  simp only at h
  obtain _ | k8 := k8
  exact absurd h (by simp [novationref15_RightBook.l2])
  rw [novationref15_RightBook.l2] at h
  refine wgo ?_
  repeat refine cj ?_
  refine kIf2 h (fun hb h => ?_) (fun hb h => ?_)
  obtain ⟨⟨hg19_3_0, hg19_3_1⟩, h⟩ := gd h
  refine wgo ?_
  repeat refine cj ?_
  obtain ⟨y19_5, hy19_5, h⟩ := bd h
  refine aCall_of (novationref15_price.spec hy19_5) ?_
  refine wgo ?_
  repeat refine cj ?_
  refine kIf2 h (fun hb h => ?_) (fun hb h => ?_)
  obtain rfl := Option.some.inj h
  have h := q8
  simp only [Flow.go_ret, Flow.goL_ret] at h
  obtain rfl := Option.some.inj h
  exact fin
  refine wgo ?_
  repeat refine cj ?_
  refine Round.fx (k8, IntKind.i64.wrap (x8_8 + 1)) h (Nat.lt_succ_self k8) ?_
  exact fxs
  obtain rfl := Option.some.inj h
  have h := q8
  simp only [Flow.go_out, Flow.goL_out] at h
  try dsimp only at h
  refine wgo ?_
  repeat refine cj ?_
  obtain ⟨f11, h11, q11⟩ := bd h
  rw [aCode_loop]
  refine aLoop_fx (α := Nat × Int) (fun p => (⟨163, [], [(0, .agg (api_Config.D a0)), (1, .agg (api_Book.D a1)), (2, .box [.d (.l (rowsD api_Inst.D a0.Insts)), .d (.v (.int .i64 a0.Skin)), .d (.v (.int .i64 a0.Times)), .d (.v (.int .i64 a0.Port)), .d (.v (.int .i64 a0.Bid)), .d (.v (.int .i64 a0.LotSize)), .d (.v (.int .i64 a0.HedgeMin))]), (3, .box [.d (.l (rowsD api_Member.D a1.Members)), .d (.l (rowsD api_Acc.D a1.Accs)), .d (.l (rowsD api_Row.D a1.Rows)), .d (.l (rowsD api_Pos.D a1.Stock)), .d (.l (rowsD i64D a1.Prices)), .d (.l (rowsD api_Order.D a1.Orders))]), (4, .one (.v (.bool false))), (5, .one (.v (.int .i64 x5_2))), (6, .none), (7, .one (.v (.int .i64 x7_5))), (8, .one (.v (.int .i64 x8_8))), (9, .one (.v (.int .i64 p.2)))]⟩ : S)) (fun p => novationref15_RightBook.l3 a0 a1 p.1 p.2 = some f11) (fun p => p.1) (FUEL, 0) h11 ?_ ?_
  exact fxs
  rintro ⟨k11, x9_11⟩ h
  simp only at h
  obtain _ | k11 := k11
  exact absurd h (by simp [novationref15_RightBook.l3])
  rw [novationref15_RightBook.l3] at h
  refine wgo ?_
  repeat refine cj ?_
  refine kIf2 h (fun hb h => ?_) (fun hb h => ?_)
  obtain ⟨⟨hg24_4_0, hg24_4_1⟩, h⟩ := gd h
  refine wgo ?_
  repeat refine cj ?_
  obtain ⟨y24_7, hy24_7, h⟩ := bd h
  refine aCall_of (novationref15_there.spec hy24_7) ?_
  refine wgo ?_
  repeat refine cj ?_
  refine kIf3 h (fun hb h => ?_) (fun hb h => ?_)
  refine wgo ?_
  repeat refine cj ?_
  refine kIf2 h (fun hb h => ?_) (fun hb h => ?_)
  obtain rfl := Option.some.inj h
  have h := q11
  simp only [Flow.go_ret, Flow.goL_ret] at h
  obtain rfl := Option.some.inj h
  exact fin
  refine wgo ?_
  repeat refine cj ?_
  refine Round.fx (k11, IntKind.i64.wrap (x9_11 + 1)) h (Nat.lt_succ_self k11) ?_
  exact fxs
  obtain rfl := Option.some.inj h
  have h := q11
  simp only [Flow.go_ret, Flow.goL_ret] at h
  obtain rfl := Option.some.inj h
  exact fin
  obtain rfl := Option.some.inj h
  have h := q11
  simp only [Flow.go_out, Flow.goL_out] at h
  try dsimp only at h
  obtain rfl := Option.some.inj h
  exact fin
  obtain rfl := Option.some.inj h
  exact fin
  obtain rfl := Option.some.inj h
  exact fin
  obtain rfl := Option.some.inj h
  exact fin
  obtain rfl := Option.some.inj h
  exact fin
  obtain rfl := Option.some.inj h
  exact fin
end Go.Ax

/- The walk of novationref26_Tranche, printed by gen.py. -/
set_option linter.unusedSimpArgs false
set_option linter.unusedVariables false
namespace Go.Ax
open Go Go.Proofs
set_option maxRecDepth 100000
set_option maxHeartbeats 4000000
theorem novationref26_Tranche.spec {a0 : api_Config} {a1 : api_Book} {a2 : List api_Deed} {a3 : Int} {a4 : Int} {r : (List Int) × Int} (h : novationref26_Tranche.f a0 a1 a2 a3 a4 = some r) : FSpec Try.prog 17 [(true, api_Config.D a0), (true, api_Book.D a1), (false, [.l (rowsD api_Deed.D a2)]), (false, [.v (.int .i64 a3)]), (false, [.v (.int .i64 a4)])] [.one (.d (.l (rowsD i64D r.1))), .one (.d (.v (.int .i64 r.2)))] := by
  unfold novationref26_Tranche.f at h
  refine fspec_data mixed Try.func17 rfl (by decide) [0, 1, 2, 3, 4, 5, 6, 10, 11, 12, 13, 14] (rs := [.tmp 10, .tmp 11]) rfl (by decide) (n := 67) rfl (by simp) ?_
  refine wgo ?_
  repeat refine cj ?_
  obtain ⟨y1_2, hy1_2, h⟩ := bd h
  refine aCall_of (novationref15_RightBook.spec hy1_2) ?_
  refine wgo ?_
  repeat refine cj ?_
  refine kIf3 h (fun hb h => ?_) (fun hb h => ?_)
  refine wgo ?_
  repeat refine cj ?_
  obtain ⟨y1_6, hy1_6, h⟩ := bd h
  refine aCall_of (novationref26_RightDeeds.spec hy1_6) ?_
  refine wgo ?_
  repeat refine cj ?_
  refine kIf2 h (fun hb h => ?_) (fun hb h => ?_)
  obtain rfl := Option.some.inj h
  exact fin
  refine wgo ?_
  repeat refine cj ?_
  obtain ⟨s1, h1, q1⟩ := bd h
  rw [aCode_loop]
  refine aLoop_fx (α := Nat × (List Int) × Int) (fun p => (⟨67, [], [(0, .agg (api_Config.D a0)), (1, .agg (api_Book.D a1)), (2, .one (.l (rowsD api_Deed.D a2))), (3, .one (.v (.int .i64 a3))), (4, .one (.v (.int .i64 a4))), (5, .box [.d (.l (rowsD api_Inst.D a0.Insts)), .d (.v (.int .i64 a0.Skin)), .d (.v (.int .i64 a0.Times)), .d (.v (.int .i64 a0.Port)), .d (.v (.int .i64 a0.Bid)), .d (.v (.int .i64 a0.LotSize)), .d (.v (.int .i64 a0.HedgeMin))]), (6, .box [.d (.l (rowsD api_Member.D a1.Members)), .d (.l (rowsD api_Acc.D a1.Accs)), .d (.l (rowsD api_Row.D a1.Rows)), .d (.l (rowsD api_Pos.D a1.Stock)), .d (.l (rowsD i64D a1.Prices)), .d (.l (rowsD api_Order.D a1.Orders))]), (10, .own 1 (rowsD i64D ([] : List Int))), (11, .one (.v (.int .i64 0))), (12, .own 1 (rowsD i64D p.2.1)), (13, .one (.v (.int .i64 p.2.2))), (14, .none)]⟩ : S)) (fun p => novationref26_Tranche.l0 a1 a2 a3 a4 p.1 p.2.1 p.2.2 = some s1) (fun p => p.1) (FUEL, ([] : List Int), 0) h1 ?_ ?_
  exact fxs
  rintro ⟨k1, x12_1, x13_1⟩ h
  simp only at h
  obtain _ | k1 := k1
  exact absurd h (by simp [novationref26_Tranche.l0])
  rw [novationref26_Tranche.l0] at h
  refine wgo ?_
  repeat refine cj ?_
  refine kIf2 h (fun hb h => ?_) (fun hb h => ?_)
  obtain ⟨⟨hg7_3_0, hg7_3_1⟩, h⟩ := gd h
  refine wgo ?_
  repeat refine cj ?_
  obtain ⟨y8_2, hy8_2, h⟩ := bd h
  refine aCall_of (novationref10_Live.spec hy8_2) ?_
  refine wgo ?_
  repeat refine cj ?_
  refine kIf2 h (fun hb h => ?_) (fun hb h => ?_)
  refine wgo ?_
  repeat refine cj ?_
  refine kIf2 h (fun hb h => ?_) (fun hb h => ?_)
  refine wgo ?_
  repeat refine cj ?_
  obtain ⟨y8_14, hy8_14, h⟩ := bd h
  refine aCall_of (novationref10_Get.spec hy8_14) ?_
  refine wgo ?_
  repeat refine cj ?_
  refine kIf2 h (fun hb h => ?_) (fun hb h => ?_)
  refine wgo ?_
  repeat refine cj ?_
  obtain ⟨y8_21, hy8_21, h⟩ := bd h
  refine aCall_of (novationref26_Class.spec hy8_21) ?_
  refine wgo ?_
  repeat refine cj ?_
  refine kIf2 h (fun hb h => ?_) (fun hb h => ?_)
  obtain ⟨hg9_4, h⟩ := gd h
  refine wgo ?_
  repeat refine cj ?_
  refine Round.fx (k1, x12_1 ++ ([(rd a1.Members x13_1).Id]), IntKind.i64.wrap (x13_1 + 1)) h (Nat.lt_succ_self k1) ?_
  exact fxs
  refine wgo ?_
  repeat refine cj ?_
  refine Round.fx (k1, x12_1, IntKind.i64.wrap (x13_1 + 1)) h (Nat.lt_succ_self k1) ?_
  exact fxs
  refine wgo ?_
  repeat refine cj ?_
  refine Round.fx (k1, x12_1, IntKind.i64.wrap (x13_1 + 1)) h (Nat.lt_succ_self k1) ?_
  exact fxs
  refine wgo ?_
  repeat refine cj ?_
  refine Round.fx (k1, x12_1, IntKind.i64.wrap (x13_1 + 1)) h (Nat.lt_succ_self k1) ?_
  exact fxs
  refine wgo ?_
  repeat refine cj ?_
  refine Round.fx (k1, x12_1, IntKind.i64.wrap (x13_1 + 1)) h (Nat.lt_succ_self k1) ?_
  exact fxs
  obtain rfl := Option.some.inj h
  have h := q1
  try dsimp only at h
  obtain rfl := Option.some.inj h
  exact fin
  obtain rfl := Option.some.inj h
  exact fin
end Go.Ax
