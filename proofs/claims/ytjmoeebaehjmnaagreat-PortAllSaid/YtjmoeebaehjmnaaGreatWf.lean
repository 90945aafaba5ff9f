/- The walk of ledger_Get, printed by gen.py. -/
import Derived.Test.YtjmoeebaehjmnaaGreatGa
import Derived.Test.YtjmoeebaehjmnaaGreatGs
import Derived.Test.YtjmoeebaehjmnaaGreatWc
import Derived.Test.YtjmoeebaehjmnaaGreatWd
import Derived.Test.YtjmoeebaehjmnaaGreatWe
import Derived.Test.YtjmoeebaehjmnaaGreatWb
set_option linter.unusedVariables false
set_option linter.unusedSimpArgs false
set_option linter.unusedSimpArgs false
set_option linter.unusedVariables false
namespace Go.Ax
open Go Go.Proofs
set_option maxRecDepth 100000
set_option maxHeartbeats 4000000
theorem ledger_Get.spec {a0 : List api_Row} {a1 : Int} {a2 : Int} {r : Int} (h : ledger_Get.f a0 a1 a2 = some r) : FSpec Tryz.prog 50 [(false, [.l (rowsD api_Row.D a0)]), (false, [.v (.int .i64 a1)]), (false, [.v (.int .i64 a2)])] [.one (.d (.v (.int .i64 r)))] := by
  unfold ledger_Get.f at h
  refine fspec_data mixed Tryz.func50 rfl (by decide) [0, 1, 2, 6, 8, 12, 13, 14] (rs := [.tmp 6]) rfl (by decide) (n := 31) rfl (by simp) ?_
  refine wgo ?_
  repeat refine cj ?_
  obtain ⟨y1_1, hy1_1, h⟩ := bd h
  refine aCall_of (ledger_Right.spec hy1_1) ?_
  refine wgo ?_
  repeat refine cj ?_
  refine kIf2 h (fun hb h => ?_) (fun hb h => ?_)
  obtain rfl := Option.some.inj h
  exact fin
  refine wgo ?_
  repeat refine cj ?_
  obtain ⟨f1, h1, q1⟩ := bd h
  rw [aCode_loop]
  refine aLoop_fx (α := Nat × Int) (fun p => (⟨31, [], [(0, .one (.l (rowsD api_Row.D a0))), (1, .one (.v (.int .i64 a1))), (2, .one (.v (.int .i64 a2))), (6, .one (.v (.int .i64 0))), (8, .none), (12, .one (.l (rowsD api_Row.D a0))), (13, .one (.v (.int .i64 (a0.length : Int)))), (14, .one (.v (.int .i64 p.2)))]⟩ : S)) (fun p => ledger_Get.l0 a0 a1 a2 p.1 p.2 = some f1) (fun p => p.1) (FUEL, 0) h1 ?_ ?_
  exact fxs
  rintro ⟨k1, x14_1⟩ h
  simp only at h
  obtain _ | k1 := k1
  exact absurd h (by simp [ledger_Get.l0])
  rw [ledger_Get.l0] at h
  refine wgo ?_
  repeat refine cj ?_
  refine kIf2 h (fun hb h => ?_) (fun hb h => ?_)
  obtain ⟨⟨hg5_0_0, hg5_0_1⟩, h⟩ := gd h
  refine wgo ?_
  repeat refine cj ?_
  refine kIf2 h (fun hb h => ?_) (fun hb h => ?_)
  refine wgo ?_
  repeat refine cj ?_
  refine kIf2 h (fun hb h => ?_) (fun hb h => ?_)
  obtain rfl := Option.some.inj h
  have h := q1
  simp only [Flow.go_ret, Flow.goL_ret] at h
  obtain rfl := Option.some.inj h
  exact fin
  refine wgo ?_
  repeat refine cj ?_
  refine Round.fx (k1, IntKind.i64.wrap (x14_1 + 1)) h (Nat.lt_succ_self k1) ?_
  exact fxs
  refine wgo ?_
  repeat refine cj ?_
  refine Round.fx (k1, IntKind.i64.wrap (x14_1 + 1)) h (Nat.lt_succ_self k1) ?_
  exact fxs
  obtain rfl := Option.some.inj h
  have h := q1
  simp only [Flow.go_out, Flow.goL_out] at h
  try dsimp only at h
  obtain rfl := Option.some.inj h
  exact fin
end Go.Ax

/- The walk of need_Covers, printed by gen.py. -/
set_option linter.unusedSimpArgs false
set_option linter.unusedVariables false
namespace Go.Ax
open Go Go.Proofs
set_option maxRecDepth 100000
set_option maxHeartbeats 4000000
theorem need_Covers.spec {a0 : Int} {a1 : Int} {r : Bool} (h : need_Covers.f a0 a1 = some r) : FSpec Tryz.prog 49 [(false, [.v (.int .i64 a0)]), (true, wD a1)] [.one (.d (.v (.bool r)))] := by
  unfold need_Covers.f at h
  refine fspec_data mixed Tryz.func49 rfl (by decide) [0, 1, 3, 4] (rs := [.tmp 4]) rfl (by decide) (n := 10) rfl (by simp) ?_
  refine wgo ?_
  repeat refine cj ?_
  obtain ⟨y1_1, hy1_1, h⟩ := bd h
  refine aCall_of (wide_Of.spec hy1_1) ?_
  refine wgo ?_
  repeat refine cj ?_
  obtain ⟨y1_3, hy1_3, h⟩ := bd h
  refine aCall_of (wide_Cmp.spec hy1_3) ?_
  obtain rfl := Option.some.inj h
  exact fin
end Go.Ax

/- The walk of need_Legs, printed by gen.py. -/
set_option linter.unusedSimpArgs false
set_option linter.unusedVariables false
namespace Go.Ax
open Go Go.Proofs
set_option maxRecDepth 100000
set_option maxHeartbeats 4000000
theorem need_Legs.spec {a0 : api_Config} {a1 : List api_Leg} {r : Bool} (h : need_Legs.f a0 a1 = some r) : FSpec Tryz.prog 156 [(true, api_Config.D a0), (false, [.l (rowsD api_Leg.D a1)])] [.one (.d (.v (.bool r)))] := by
  unfold need_Legs.f at h
  refine fspec_data mixed Tryz.func156 rfl (by decide) [0, 1, 2, 4, 5, 6, 7, 8, 9] (rs := [.tmp 4]) rfl (by decide) (n := 54) rfl (by simp) ?_
  refine wgo ?_
  repeat refine cj ?_
  obtain ⟨f0, h0, q0⟩ := bd h
  rw [aCode_loop]
  refine aLoop_fx (α := Nat × Int) (fun p => (⟨54, [], [(0, .agg (api_Config.D a0)), (1, .one (.l (rowsD api_Leg.D a1))), (2, .box [.d (.l (rowsD api_Inst.D a0.Insts)), .d (.v (.int .i64 a0.Skin)), .d (.v (.int .i64 a0.Times)), .d (.v (.int .i64 a0.Port)), .d (.v (.int .i64 a0.Bid)), .d (.v (.int .i64 a0.LotSize)), .d (.v (.int .i64 a0.HedgeMin))]), (4, .one (.v (.bool false))), (5, .none), (6, .none), (7, .one (.l (rowsD api_Leg.D a1))), (8, .one (.v (.int .i64 (a1.length : Int)))), (9, .one (.v (.int .i64 p.2)))]⟩ : S)) (fun p => need_Legs.l0 a0 a1 p.1 p.2 = some f0) (fun p => p.1) (FUEL, 0) h0 ?_ ?_
  exact fxs
  rintro ⟨k0, x9_0⟩ h
  simp only at h
  obtain _ | k0 := k0
  exact absurd h (by simp [need_Legs.l0])
  rw [need_Legs.l0] at h
  refine wgo ?_
  repeat refine cj ?_
  refine kIf2 h (fun hb h => ?_) (fun hb h => ?_)
  obtain ⟨⟨hg3_1_0, hg3_1_1⟩, h⟩ := gd h
  refine wgo ?_
  repeat refine cj ?_
  refine kIf3 h (fun hb h => ?_) (fun hb h => ?_)
  refine wgo ?_
  repeat refine cj ?_
  refine kIf3 h (fun hb h => ?_) (fun hb h => ?_)
  refine wgo ?_
  repeat refine cj ?_
  refine kIf3 h (fun hb h => ?_) (fun hb h => ?_)
  refine wgo ?_
  repeat refine cj ?_
  obtain ⟨y4_19, hy4_19, h⟩ := bd h
  refine aCall_of (stock_Quantity.spec hy4_19) ?_
  refine wgo ?_
  repeat refine cj ?_
  refine kIf3 h (fun hb h => ?_) (fun hb h => ?_)
  refine wgo ?_
  repeat refine cj ?_
  refine kIf2 h (fun hb h => ?_) (fun hb h => ?_)
  obtain ⟨⟨hg4_29_0, hg4_29_1⟩, h⟩ := gd h
  refine wgo ?_
  repeat refine cj ?_
  refine kIf2 h (fun hb h => ?_) (fun hb h => ?_)
  obtain rfl := Option.some.inj h
  have h := q0
  simp only [Flow.go_ret, Flow.goL_ret] at h
  obtain rfl := Option.some.inj h
  exact fin
  refine wgo ?_
  repeat refine cj ?_
  refine Round.fx (k0, IntKind.i64.wrap (x9_0 + 1)) h (Nat.lt_succ_self k0) ?_
  exact fxs
  refine wgo ?_
  repeat refine cj ?_
  refine Round.fx (k0, IntKind.i64.wrap (x9_0 + 1)) h (Nat.lt_succ_self k0) ?_
  exact fxs
  obtain rfl := Option.some.inj h
  have h := q0
  simp only [Flow.go_ret, Flow.goL_ret] at h
  obtain rfl := Option.some.inj h
  exact fin
  obtain rfl := Option.some.inj h
  have h := q0
  simp only [Flow.go_ret, Flow.goL_ret] at h
  obtain rfl := Option.some.inj h
  exact fin
  obtain rfl := Option.some.inj h
  have h := q0
  simp only [Flow.go_ret, Flow.goL_ret] at h
  obtain rfl := Option.some.inj h
  exact fin
  obtain rfl := Option.some.inj h
  have h := q0
  simp only [Flow.go_ret, Flow.goL_ret] at h
  obtain rfl := Option.some.inj h
  exact fin
  obtain rfl := Option.some.inj h
  have h := q0
  simp only [Flow.go_out, Flow.goL_out] at h
  try dsimp only at h
  refine wgo ?_
  repeat refine cj ?_
  obtain ⟨y7_1, hy7_1, h⟩ := bd h
  refine aCall_of (plan_Right.spec hy7_1) ?_
  obtain rfl := Option.some.inj h
  exact fin
end Go.Ax

/- The walk of need_Of_1, printed by gen.py. -/
set_option linter.unusedSimpArgs false
set_option linter.unusedVariables false
namespace Go.Ax
open Go Go.Proofs
set_option maxRecDepth 100000
set_option maxHeartbeats 4000000
theorem need_Of_1.spec {a0 : api_Inst} {r : Int} (h : need_Of_1.f a0 = some r) : FSpec Tryz.prog 131 [(true, api_Inst.D a0)] [.one (.d (.v (.int .i64 r)))] := by
  unfold need_Of_1.f at h
  refine fspec_data mixed Tryz.func131 rfl (by decide) [0, 1, 2] (rs := [.tmp 2]) rfl (by decide) (n := 5) rfl (by simp) ?_
  obtain rfl := Option.some.inj h
  exact fin
end Go.Ax

/- The walk of need_by_need_Of_1, printed by gen.py. -/
set_option linter.unusedSimpArgs false
set_option linter.unusedVariables false
namespace Go.Ax
open Go Go.Proofs
set_option maxRecDepth 100000
set_option maxHeartbeats 4000000
theorem need_by_need_Of_1.spec {a0 : api_Config} {a1 : List api_Leg} {r : Int × Int} (h : need_by_need_Of_1.f a0 a1 = some r) : FSpec Tryz.prog 130 [(true, api_Config.D a0), (false, [.l (rowsD api_Leg.D a1)]), (false, [.v (.func (.func 131) #[] #[])])] [.agg (wD r.1), .one (.d (.v (.int .i64 r.2)))] := by
  unfold need_by_need_Of_1.f at h
  refine fspec_data mixed Tryz.func130 rfl (by decide) [0, 1, 2, 3, 6, 7, 8, 10, 11, 18, 19, 20] (rs := [.cell 6 97, .tmp 7]) rfl (by decide) (n := 47) rfl (by simp) ?_
  refine wgo ?_
  repeat refine cj ?_
  obtain ⟨y1_2, hy1_2, h⟩ := bd h
  refine aCall_of (need_Legs.spec hy1_2) ?_
  refine wgo ?_
  repeat refine cj ?_
  refine kIf2 h (fun hb h => ?_) (fun hb h => ?_)
  obtain rfl := Option.some.inj h
  exact fin
  refine wgo ?_
  repeat refine cj ?_
  obtain ⟨s1, h1, q1⟩ := bd h
  rw [aCode_loop]
  refine aLoop_fx (α := Nat × (List Int) × Int) (fun p => (⟨47, [], [(0, .agg (api_Config.D a0)), (1, .one (.l (rowsD api_Leg.D a1))), (2, .one (.v (.func (.func 131) #[] #[]))), (3, .box [.d (.l (rowsD api_Inst.D a0.Insts)), .d (.v (.int .i64 a0.Skin)), .d (.v (.int .i64 a0.Times)), .d (.v (.int .i64 a0.Port)), .d (.v (.int .i64 a0.Bid)), .d (.v (.int .i64 a0.LotSize)), .d (.v (.int .i64 a0.HedgeMin))]), (6, .box [.d (.v (.int .i64 (wHi 0))), .d (.v (.int .u64 (wLo 0)))]), (7, .one (.v (.int .i64 0))), (8, .own 2 (rowsD wD p.2.1)), (10, .none), (11, .none), (18, .one (.l (rowsD api_Leg.D a1))), (19, .one (.v (.int .i64 (a1.length : Int)))), (20, .one (.v (.int .i64 p.2.2)))]⟩ : S)) (fun p => need_by_need_Of_1.l0 a0 a1 p.1 p.2.1 p.2.2 = some s1) (fun p => p.1) (FUEL, ([] : List Int), 0) h1 ?_ ?_
  exact fxs
  rintro ⟨k1, x8_1, x20_1⟩ h
  simp only at h
  obtain _ | k1 := k1
  exact absurd h (by simp [need_by_need_Of_1.l0])
  rw [need_by_need_Of_1.l0] at h
  refine wgo ?_
  repeat refine cj ?_
  refine kIf2 h (fun hb h => ?_) (fun hb h => ?_)
  obtain ⟨⟨hg6_0_0, hg6_0_1⟩, h⟩ := gd h
  refine wgo ?_
  repeat refine cj ?_
  obtain ⟨y7_3, hy7_3, h⟩ := bd h
  refine aCall_of (amount_Size.spec hy7_3) ?_
  obtain ⟨⟨hg7_10_0, hg7_10_1⟩, h⟩ := gd h
  refine wgo ?_
  repeat refine cj ?_
  obtain ⟨y7_12, hy7_12, h⟩ := bd h
  have e := need_Of_1.spec hy7_12
  simp only [go_sem, List.map_set, rowsD_append, rowsD_cons, rowsD_nil, rowsD_set, rowsD_take, rowsD_drop, rowsD_replicate] at e
  refine aCall_of e ?_
  refine wgo ?_
  repeat refine cj ?_
  obtain ⟨y7_13, hy7_13, h⟩ := bd h
  refine aCall_of (wide_Mul.spec hy7_13) ?_
  obtain ⟨hg7_15, h⟩ := gd h
  refine wgo ?_
  repeat refine cj ?_
  refine Round.fx (k1, x8_1 ++ ([y7_13]), IntKind.i64.wrap (x20_1 + 1)) h (Nat.lt_succ_self k1) ?_
  exact fxs
  obtain rfl := Option.some.inj h
  have h := q1
  try dsimp only at h
  refine wgo ?_
  repeat refine cj ?_
  obtain ⟨y9_1, hy9_1, h⟩ := bd h
  refine aCall_of (wide_Sum.spec hy9_1) ?_
  obtain rfl := Option.some.inj h
  exact fin
end Go.Ax

/- The walk of need_Of, printed by gen.py. -/
set_option linter.unusedSimpArgs false
set_option linter.unusedVariables false
namespace Go.Ax
open Go Go.Proofs
set_option maxRecDepth 100000
set_option maxHeartbeats 4000000
theorem need_Of.spec {a0 : api_Config} {a1 : List api_Leg} {r : Int × Int} (h : need_Of.f a0 a1 = some r) : FSpec Tryz.prog 47 [(true, api_Config.D a0), (false, [.l (rowsD api_Leg.D a1)])] [.agg (wD r.1), .one (.d (.v (.int .i64 r.2)))] := by
  unfold need_Of.f at h
  refine fspec_data mixed Tryz.func47 rfl (by decide) [0, 1, 2, 4, 5] (rs := [.cell 4 97, .tmp 5]) rfl (by decide) (n := 11) rfl (by simp) ?_
  refine wgo ?_
  repeat refine cj ?_
  obtain ⟨y1_2, hy1_2, h⟩ := bd h
  refine aCall_of (need_by_need_Of_1.spec hy1_2) ?_
  obtain rfl := Option.some.inj h
  exact fin
end Go.Ax

/- The walk of stock_Of, printed by gen.py. -/
set_option linter.unusedSimpArgs false
set_option linter.unusedVariables false
namespace Go.Ax
open Go Go.Proofs
set_option maxRecDepth 100000
set_option maxHeartbeats 4000000
theorem stock_Of.spec {a0 : List api_Pos} {a1 : Int} {r : (List api_Leg)} (h : stock_Of.f a0 a1 = some r) : FSpec Tryz.prog 48 [(false, [.l (rowsD api_Pos.D a0)]), (false, [.v (.int .i64 a1)])] [.one (.d (.l (rowsD api_Leg.D r)))] := by
  unfold stock_Of.f at h
  refine fspec_data mixed Tryz.func48 rfl (by decide) [0, 1, 4, 5, 7, 11, 12, 13] (rs := [.tmp 4]) rfl (by decide) (n := 31) rfl (by simp) ?_
  refine wgo ?_
  repeat refine cj ?_
  obtain ⟨y1_1, hy1_1, h⟩ := bd h
  refine aCall_of (stock_Right.spec hy1_1) ?_
  refine wgo ?_
  repeat refine cj ?_
  refine kIf2 h (fun hb h => ?_) (fun hb h => ?_)
  obtain rfl := Option.some.inj h
  exact fin
  refine wgo ?_
  repeat refine cj ?_
  obtain ⟨s1, h1, q1⟩ := bd h
  rw [aCode_loop]
  refine aLoop_fx (α := Nat × (List api_Leg) × Int) (fun p => (⟨31, [], [(0, .one (.l (rowsD api_Pos.D a0))), (1, .one (.v (.int .i64 a1))), (4, .own 2 (rowsD api_Leg.D ([] : List api_Leg))), (5, .own 2 (rowsD api_Leg.D p.2.1)), (7, .none), (11, .one (.l (rowsD api_Pos.D a0))), (12, .one (.v (.int .i64 (a0.length : Int)))), (13, .one (.v (.int .i64 p.2.2)))]⟩ : S)) (fun p => stock_Of.l0 a0 a1 p.1 p.2.1 p.2.2 = some s1) (fun p => p.1) (FUEL, ([] : List api_Leg), 0) h1 ?_ ?_
  exact fxs
  rintro ⟨k1, x5_1, x13_1⟩ h
  simp only at h
  obtain _ | k1 := k1
  exact absurd h (by simp [stock_Of.l0])
  rw [stock_Of.l0] at h
  refine wgo ?_
  repeat refine cj ?_
  refine kIf2 h (fun hb h => ?_) (fun hb h => ?_)
  obtain ⟨⟨hg6_0_0, hg6_0_1⟩, h⟩ := gd h
  refine wgo ?_
  repeat refine cj ?_
  refine kIf2 h (fun hb h => ?_) (fun hb h => ?_)
  obtain ⟨hg8_7, h⟩ := gd h
  refine wgo ?_
  repeat refine cj ?_
  refine Round.fx (k1, x5_1 ++ ([(⟨(rd a0 x13_1).Inst, (rd a0 x13_1).Q⟩ : api_Leg)]), IntKind.i64.wrap (x13_1 + 1)) h (Nat.lt_succ_self k1) ?_
  exact fxs
  refine wgo ?_
  repeat refine cj ?_
  refine Round.fx (k1, x5_1, IntKind.i64.wrap (x13_1 + 1)) h (Nat.lt_succ_self k1) ?_
  exact fxs
  obtain rfl := Option.some.inj h
  have h := q1
  try dsimp only at h
  obtain rfl := Option.some.inj h
  exact fin
end Go.Ax

/- The walk of port_May, printed by gen.py. -/
set_option linter.unusedSimpArgs false
set_option linter.unusedVariables false
namespace Go.Ax
open Go Go.Proofs
set_option maxRecDepth 100000
set_option maxHeartbeats 4000000
theorem port_May.spec {a0 : api_Config} {a1 : api_Book} {a2 : Int} {a3 : Int} {a4 : Int} {r : Int} (h : port_May.f a0 a1 a2 a3 a4 = some r) : FSpec Tryz.prog 17 [(true, api_Config.D a0), (true, api_Book.D a1), (false, [.v (.int .i64 a2)]), (false, [.v (.int .i64 a3)]), (false, [.v (.int .i64 a4)])] [.one (.d (.v (.int .i64 r)))] := by
  unfold port_May.f at h
  refine fspec_data mixed Tryz.func17 rfl (by decide) [0, 1, 2, 3, 4, 5, 6, 10, 11, 12, 13, 14, 31] (rs := [.tmp 10]) rfl (by decide) (n := 70) rfl (by simp) ?_
  refine wgo ?_
  repeat refine cj ?_
  obtain ⟨y1_2, hy1_2, h⟩ := bd h
  refine aCall_of (book_Right.spec hy1_2) ?_
  refine wgo ?_
  repeat refine cj ?_
  refine kIf2 h (fun hb h => ?_) (fun hb h => ?_)
  obtain rfl := Option.some.inj h
  exact fin
  refine wgo ?_
  repeat refine cj ?_
  obtain ⟨y3_3, hy3_3, h⟩ := bd h
  refine aCall_of (roll_Find.spec hy3_3) ?_
  refine wgo ?_
  repeat refine cj ?_
  obtain ⟨y4_3, hy4_3, h⟩ := bd h
  refine aCall_of (roll_Status.spec hy4_3) ?_
  refine wgo ?_
  repeat refine cj ?_
  obtain ⟨y5_3, hy5_3, h⟩ := bd h
  refine aCall_of (roll_Status.spec hy5_3) ?_
  refine wgo ?_
  repeat refine cj ?_
  refine kIf2 h (fun hb h => ?_) (fun hb h => ?_)
  refine wgo ?_
  repeat refine cj ?_
  refine kIf2 h (fun hb h => ?_) (fun hb h => ?_)
  obtain rfl := Option.some.inj h
  exact fin
  refine wgo ?_
  repeat refine cj ?_
  refine kIf3 h (fun hb h => ?_) (fun hb h => ?_)
  refine wgo ?_
  repeat refine cj ?_
  refine kIf2 h (fun hb h => ?_) (fun hb h => ?_)
  obtain rfl := Option.some.inj h
  exact fin
  refine wgo ?_
  repeat refine cj ?_
  refine kIf2 h (fun hb h => ?_) (fun hb h => ?_)
  obtain rfl := Option.some.inj h
  exact fin
  refine wgo ?_
  repeat refine cj ?_
  obtain ⟨y13_4, hy13_4, h⟩ := bd h
  refine aCall_of (stock_Of.spec hy13_4) ?_
  refine wgo ?_
  repeat refine cj ?_
  obtain ⟨y13_5, hy13_5, h⟩ := bd h
  refine aCall_of (need_Of.spec hy13_5) ?_
  refine wgo ?_
  repeat refine cj ?_
  obtain ⟨y14_3, hy14_3, h⟩ := bd h
  refine aCall_of (ledger_Get.spec hy14_3) ?_
  refine wgo ?_
  repeat refine cj ?_
  obtain ⟨y14_5, hy14_5, h⟩ := bd h
  refine aCall_of (need_Covers.spec hy14_5) ?_
  refine wgo ?_
  repeat refine cj ?_
  refine kIf2 h (fun hb h => ?_) (fun hb h => ?_)
  obtain rfl := Option.some.inj h
  exact fin
  obtain rfl := Option.some.inj h
  exact fin
  obtain rfl := Option.some.inj h
  exact fin
  refine wgo ?_
  repeat refine cj ?_
  refine kIf2 h (fun hb h => ?_) (fun hb h => ?_)
  refine wgo ?_
  repeat refine cj ?_
  refine kIf2 h (fun hb h => ?_) (fun hb h => ?_)
  obtain rfl := Option.some.inj h
  exact fin
  refine wgo ?_
  repeat refine cj ?_
  refine kIf3 h (fun hb h => ?_) (fun hb h => ?_)
  refine wgo ?_
  repeat refine cj ?_
  refine kIf2 h (fun hb h => ?_) (fun hb h => ?_)
  obtain rfl := Option.some.inj h
  exact fin
  refine wgo ?_
  repeat refine cj ?_
  refine kIf2 h (fun hb h => ?_) (fun hb h => ?_)
  obtain rfl := Option.some.inj h
  exact fin
  refine wgo ?_
  repeat refine cj ?_
  obtain ⟨y13_4, hy13_4, h⟩ := bd h
  refine aCall_of (stock_Of.spec hy13_4) ?_
  refine wgo ?_
  repeat refine cj ?_
  obtain ⟨y13_5, hy13_5, h⟩ := bd h
  refine aCall_of (need_Of.spec hy13_5) ?_
  refine wgo ?_
  repeat refine cj ?_
  obtain ⟨y14_3, hy14_3, h⟩ := bd h
  refine aCall_of (ledger_Get.spec hy14_3) ?_
  refine wgo ?_
  repeat refine cj ?_
  obtain ⟨y14_5, hy14_5, h⟩ := bd h
  refine aCall_of (need_Covers.spec hy14_5) ?_
  refine wgo ?_
  repeat refine cj ?_
  refine kIf2 h (fun hb h => ?_) (fun hb h => ?_)
  obtain rfl := Option.some.inj h
  exact fin
  obtain rfl := Option.some.inj h
  exact fin
  obtain rfl := Option.some.inj h
  exact fin
  refine wgo ?_
  repeat refine cj ?_
  refine kIf2 h (fun hb h => ?_) (fun hb h => ?_)
  obtain rfl := Option.some.inj h
  exact fin
  refine wgo ?_
  repeat refine cj ?_
  refine kIf3 h (fun hb h => ?_) (fun hb h => ?_)
  refine wgo ?_
  repeat refine cj ?_
  refine kIf2 h (fun hb h => ?_) (fun hb h => ?_)
  obtain rfl := Option.some.inj h
  exact fin
  refine wgo ?_
  repeat refine cj ?_
  refine kIf2 h (fun hb h => ?_) (fun hb h => ?_)
  obtain rfl := Option.some.inj h
  exact fin
  refine wgo ?_
  repeat refine cj ?_
  obtain ⟨y13_4, hy13_4, h⟩ := bd h
  refine aCall_of (stock_Of.spec hy13_4) ?_
  refine wgo ?_
  repeat refine cj ?_
  obtain ⟨y13_5, hy13_5, h⟩ := bd h
  refine aCall_of (need_Of.spec hy13_5) ?_
  refine wgo ?_
  repeat refine cj ?_
  obtain ⟨y14_3, hy14_3, h⟩ := bd h
  refine aCall_of (ledger_Get.spec hy14_3) ?_
  refine wgo ?_
  repeat refine cj ?_
  obtain ⟨y14_5, hy14_5, h⟩ := bd h
  refine aCall_of (need_Covers.spec hy14_5) ?_
  refine wgo ?_
  repeat refine cj ?_
  refine kIf2 h (fun hb h => ?_) (fun hb h => ?_)
  obtain rfl := Option.some.inj h
  exact fin
  obtain rfl := Option.some.inj h
  exact fin
  obtain rfl := Option.some.inj h
  exact fin
end Go.Ax
