/- The walk of novationref10_All, printed by gen.py. -/
import Derived.Test.YtmpbhgofllbejaaGa
import Derived.Test.YtmpbhgofllbejaaGs
import Derived.Test.YtmpbhgofllbejaaWb
set_option linter.unusedVariables false
set_option linter.unusedSimpArgs false
set_option linter.unusedSimpArgs false
set_option linter.unusedVariables false
namespace Go.Ax
open Go Go.Proofs
set_option maxRecDepth 100000
set_option maxHeartbeats 4000000
theorem novationref10_All.spec {a0 : List api_Pos} {a1 : Int} {a2 : Int} {r : (List api_Shift)} (h : novationref10_All.f a0 a1 a2 = some r) : FSpec Try.prog 60 [(false, [.l (rowsD api_Pos.D a0)]), (false, [.v (.int .i64 a1)]), (false, [.v (.int .i64 a2)])] [.one (.d (.l (rowsD api_Shift.D r)))] := by
  unfold novationref10_All.f at h
  refine fspec_data mixed Try.func60 rfl (by decide) [0, 1, 2, 6, 7, 8] (rs := [.tmp 6]) rfl (by decide) (n := 76) rfl (by simp) ?_
  refine wgo ?_
  repeat refine cj ?_
  obtain ⟨y2_1, hy2_1, h⟩ := bd h
  refine aCall_of (novationref10_Stock.spec hy2_1) ?_
  refine wgo ?_
  repeat refine cj ?_
  refine kIf3 h (fun hb h => ?_) (fun hb h => ?_)
  refine wgo ?_
  repeat refine cj ?_
  refine kIf3 h (fun hb h => ?_) (fun hb h => ?_)
  refine wgo ?_
  repeat refine cj ?_
  refine kIf3 h (fun hb h => ?_) (fun hb h => ?_)
  refine wgo ?_
  repeat refine cj ?_
  refine kIf3 h (fun hb h => ?_) (fun hb h => ?_)
  refine wgo ?_
  repeat refine cj ?_
  refine kIf3 h (fun hb h => ?_) (fun hb h => ?_)
  refine wgo ?_
  repeat refine cj ?_
  refine kIf2 h (fun hb h => ?_) (fun hb h => ?_)
  obtain rfl := Option.some.inj h
  exact fin
  refine wgo ?_
  repeat refine cj ?_
  obtain ⟨s1, h1, q1⟩ := bd h
  rw [aCode_loop]
  refine aLoop_fx (α := Nat × (List api_Shift) × Int) (fun p => (⟨76, [], [(0, .one (.l (rowsD api_Pos.D a0))), (1, .one (.v (.int .i64 a1))), (2, .one (.v (.int .i64 a2))), (6, .own 3 (rowsD api_Shift.D ([] : List api_Shift))), (7, .own 3 (rowsD api_Shift.D p.2.1)), (8, .one (.v (.int .i64 p.2.2)))]⟩ : S)) (fun p => novationref10_All.l0 a0 a1 a2 p.1 p.2.1 p.2.2 = some s1) (fun p => p.1) (FUEL, ([] : List api_Shift), 0) h1 ?_ ?_
  exact fxs
  rintro ⟨k1, x7_1, x8_1⟩ h
  simp only at h
  obtain _ | k1 := k1
  exact absurd h (by simp [novationref10_All.l0])
  rw [novationref10_All.l0] at h
  refine wgo ?_
  repeat refine cj ?_
  refine kIf2 h (fun hb h => ?_) (fun hb h => ?_)
  obtain ⟨⟨hg7_2_0, hg7_2_1⟩, h⟩ := gd h
  refine wgo ?_
  repeat refine cj ?_
  refine kIf2 h (fun hb h => ?_) (fun hb h => ?_)
  obtain ⟨hg8_27, h⟩ := gd h
  refine wgo ?_
  repeat refine cj ?_
  refine Round.fx (k1, x7_1 ++ ([(⟨a1, (rd a0 x8_1).Inst, IntKind.i64.wrap (0 - (rd a0 x8_1).Q)⟩ : api_Shift), (⟨a2, (rd a0 x8_1).Inst, (rd a0 x8_1).Q⟩ : api_Shift)]), IntKind.i64.wrap (x8_1 + 1)) h (Nat.lt_succ_self k1) ?_
  exact fxs
  refine wgo ?_
  repeat refine cj ?_
  refine Round.fx (k1, x7_1, IntKind.i64.wrap (x8_1 + 1)) h (Nat.lt_succ_self k1) ?_
  exact fxs
  obtain rfl := Option.some.inj h
  have h := q1
  try dsimp only at h
  obtain rfl := Option.some.inj h
  exact fin
  obtain rfl := Option.some.inj h
  exact fin
  obtain rfl := Option.some.inj h
  exact fin
  obtain rfl := Option.some.inj h
  exact fin
  obtain rfl := Option.some.inj h
  exact fin
  obtain rfl := Option.some.inj h
  exact fin
end Go.Ax

/- The walk of novationref10_SumInst, printed by gen.py. -/
set_option linter.unusedSimpArgs false
set_option linter.unusedVariables false
namespace Go.Ax
open Go Go.Proofs
set_option maxRecDepth 100000
set_option maxHeartbeats 4000000
theorem novationref10_SumInst.spec {a0 : List api_Pos} {a1 : Int} {r : Int} (h : novationref10_SumInst.f a0 a1 = some r) : FSpec Try.prog 55 [(false, [.l (rowsD api_Pos.D a0)]), (false, [.v (.int .i64 a1)])] [.agg (bigDs r)] := by
  unfold novationref10_SumInst.f at h
  refine fspec_data mixed Try.func55 rfl (by decide) [0, 1, 4, 5, 6] (rs := [.cell 4 76]) rfl (by decide) (n := 33) rfl (by simp) ?_
  refine wgo ?_
  repeat refine cj ?_
  obtain ⟨y2_1, hy2_1, h⟩ := bd h
  refine aCall_of (novationref10_Stock.spec hy2_1) ?_
  refine wgo ?_
  repeat refine cj ?_
  refine kIf2 h (fun hb h => ?_) (fun hb h => ?_)
  obtain rfl := Option.some.inj h
  exact fin
  refine wgo ?_
  repeat refine cj ?_
  obtain ⟨s1, h1, q1⟩ := bd h
  rw [aCode_loop]
  refine aLoop_fx (α := Nat × Int × Int) (fun p => (⟨33, [], [(0, .one (.l (rowsD api_Pos.D a0))), (1, .one (.v (.int .i64 a1))), (4, .box [.d (.v (.bool (decide ((0 : Int) < 0)))), .d (.l (rowsU (digs (0 : Int).natAbs)))]), (5, .box [.d (.v (.bool (decide ((p.2.1 : Int) < 0)))), .d (.l (rowsU (digs (p.2.1 : Int).natAbs)))]), (6, .one (.v (.int .i64 p.2.2)))]⟩ : S)) (fun p => novationref10_SumInst.l0 a0 a1 p.1 p.2.1 p.2.2 = some s1) (fun p => p.1) (FUEL, 0, 0) h1 ?_ ?_
  exact fxs
  rintro ⟨k1, x5_1, x6_1⟩ h
  simp only at h
  obtain _ | k1 := k1
  exact absurd h (by simp [novationref10_SumInst.l0])
  rw [novationref10_SumInst.l0] at h
  refine wgo ?_
  repeat refine cj ?_
  refine kIf2 h (fun hb h => ?_) (fun hb h => ?_)
  obtain ⟨⟨hg7_2_0, hg7_2_1⟩, h⟩ := gd h
  refine wgo ?_
  repeat refine cj ?_
  refine kIf2 h (fun hb h => ?_) (fun hb h => ?_)
  refine wgo ?_
  repeat refine cj ?_
  obtain ⟨y8_6, hy8_6, h⟩ := bd h
  refine aCall_of (novationref1_Whole.spec hy8_6) ?_
  refine wgo ?_
  repeat refine cj ?_
  obtain ⟨y8_7, hy8_7, h⟩ := bd h
  refine aCall_of (novationref1_Plus.spec hy8_7) ?_
  refine wgo ?_
  repeat refine cj ?_
  refine Round.fx (k1, y8_7, IntKind.i64.wrap (x6_1 + 1)) h (Nat.lt_succ_self k1) ?_
  exact fxs
  refine wgo ?_
  repeat refine cj ?_
  refine Round.fx (k1, x5_1, IntKind.i64.wrap (x6_1 + 1)) h (Nat.lt_succ_self k1) ?_
  exact fxs
  obtain rfl := Option.some.inj h
  have h := q1
  try dsimp only at h
  obtain rfl := Option.some.inj h
  exact fin
end Go.Ax

/- The walk of novationref10_Flat, printed by gen.py. -/
set_option linter.unusedSimpArgs false
set_option linter.unusedVariables false
namespace Go.Ax
open Go Go.Proofs
set_option maxRecDepth 100000
set_option maxHeartbeats 4000000
theorem novationref10_Flat.spec {a0 : List api_Pos} {r : Bool} (h : novationref10_Flat.f a0 = some r) : FSpec Try.prog 57 [(false, [.l (rowsD api_Pos.D a0)])] [.one (.d (.v (.bool r)))] := by
  unfold novationref10_Flat.f at h
  refine fspec_data mixed Try.func57 rfl (by decide) [0, 2, 3] (rs := [.tmp 2]) rfl (by decide) (n := 15) rfl (by simp) ?_
  refine wgo ?_
  repeat refine cj ?_
  obtain ⟨f0, h0, q0⟩ := bd h
  rw [aCode_loop]
  refine aLoop_fx (α := Nat × Int) (fun p => (⟨15, [], [(0, .one (.l (rowsD api_Pos.D a0))), (2, .one (.v (.bool false))), (3, .one (.v (.int .i64 p.2)))]⟩ : S)) (fun p => novationref10_Flat.l0 a0 p.1 p.2 = some f0) (fun p => p.1) (FUEL, 0) h0 ?_ ?_
  exact fxs
  rintro ⟨k0, x3_0⟩ h
  simp only at h
  obtain _ | k0 := k0
  exact absurd h (by simp [novationref10_Flat.l0])
  rw [novationref10_Flat.l0] at h
  refine wgo ?_
  repeat refine cj ?_
  refine kIf2 h (fun hb h => ?_) (fun hb h => ?_)
  refine wgo ?_
  repeat refine cj ?_
  obtain ⟨y4_2, hy4_2, h⟩ := bd h
  refine aCall_of (novationref10_SumInst.spec hy4_2) ?_
  refine wgo ?_
  repeat refine cj ?_
  obtain ⟨y4_3, hy4_3, h⟩ := bd h
  refine aCall_of (novationref1_Sign.spec hy4_3) ?_
  refine wgo ?_
  repeat refine cj ?_
  refine kIf2 h (fun hb h => ?_) (fun hb h => ?_)
  obtain rfl := Option.some.inj h
  have h := q0
  simp only [Flow.go_ret, Flow.goL_ret] at h
  obtain rfl := Option.some.inj h
  exact fin
  refine wgo ?_
  repeat refine cj ?_
  refine Round.fx (k0, IntKind.i64.wrap (x3_0 + 1)) h (Nat.lt_succ_self k0) ?_
  exact fxs
  obtain rfl := Option.some.inj h
  have h := q0
  simp only [Flow.go_out, Flow.goL_out] at h
  try dsimp only at h
  refine wgo ?_
  repeat refine cj ?_
  obtain ⟨y6_1, hy6_1, h⟩ := bd h
  refine aCall_of (novationref10_Stock.spec hy6_1) ?_
  obtain rfl := Option.some.inj h
  exact fin
end Go.Ax

/- The walk of novationref10_Held, printed by gen.py. -/
set_option linter.unusedSimpArgs false
set_option linter.unusedVariables false
namespace Go.Ax
open Go Go.Proofs
set_option maxRecDepth 100000
set_option maxHeartbeats 4000000
theorem novationref10_Held.spec {a0 : List api_Pos} {a1 : Int} {a2 : Int} {r : Int} (h : novationref10_Held.f a0 a1 a2 = some r) : FSpec Try.prog 50 [(false, [.l (rowsD api_Pos.D a0)]), (false, [.v (.int .i64 a1)]), (false, [.v (.int .i64 a2)])] [.one (.d (.v (.int .i64 r)))] := by
  unfold novationref10_Held.f at h
  refine fspec_data mixed Try.func50 rfl (by decide) [0, 1, 2, 6, 7] (rs := [.tmp 6]) rfl (by decide) (n := 38) rfl (by simp) ?_
  refine wgo ?_
  repeat refine cj ?_
  obtain ⟨y1_1, hy1_1, h⟩ := bd h
  refine aCall_of (novationref10_Stock.spec hy1_1) ?_
  refine wgo ?_
  repeat refine cj ?_
  refine kIf2 h (fun hb h => ?_) (fun hb h => ?_)
  obtain rfl := Option.some.inj h
  exact fin
  refine wgo ?_
  repeat refine cj ?_
  obtain ⟨f1, h1, q1⟩ := bd h
  rw [aCode_loop]
  refine aLoop_fx (α := Nat × Int) (fun p => (⟨38, [], [(0, .one (.l (rowsD api_Pos.D a0))), (1, .one (.v (.int .i64 a1))), (2, .one (.v (.int .i64 a2))), (6, .one (.v (.int .i64 0))), (7, .one (.v (.int .i64 p.2)))]⟩ : S)) (fun p => novationref10_Held.l0 a0 a1 a2 p.1 p.2 = some f1) (fun p => p.1) (FUEL, 0) h1 ?_ ?_
  exact fxs
  rintro ⟨k1, x7_1⟩ h
  simp only at h
  obtain _ | k1 := k1
  exact absurd h (by simp [novationref10_Held.l0])
  rw [novationref10_Held.l0] at h
  refine wgo ?_
  repeat refine cj ?_
  refine kIf2 h (fun hb h => ?_) (fun hb h => ?_)
  obtain ⟨⟨hg6_2_0, hg6_2_1⟩, h⟩ := gd h
  refine wgo ?_
  repeat refine cj ?_
  refine kIf2 h (fun hb h => ?_) (fun hb h => ?_)
  refine wgo ?_
  repeat refine cj ?_
  refine kIf2 h (fun hb h => ?_) (fun hb h => ?_)
  obtain rfl := Option.some.inj h
  have h := q1
  simp only [Flow.go_ret, Flow.goL_ret] at h
  obtain rfl := Option.some.inj h
  exact fin
  refine wgo ?_
  repeat refine cj ?_
  refine Round.fx (k1, IntKind.i64.wrap (x7_1 + 1)) h (Nat.lt_succ_self k1) ?_
  exact fxs
  refine wgo ?_
  repeat refine cj ?_
  refine Round.fx (k1, IntKind.i64.wrap (x7_1 + 1)) h (Nat.lt_succ_self k1) ?_
  exact fxs
  obtain rfl := Option.some.inj h
  have h := q1
  simp only [Flow.go_out, Flow.goL_out] at h
  try dsimp only at h
  obtain rfl := Option.some.inj h
  exact fin
end Go.Ax

/- The walk of novationref10_Of, printed by gen.py. -/
set_option linter.unusedSimpArgs false
set_option linter.unusedVariables false
namespace Go.Ax
open Go Go.Proofs
set_option maxRecDepth 100000
set_option maxHeartbeats 4000000
theorem novationref10_Of.spec {a0 : List api_Pos} {a1 : Int} {r : (List api_Leg)} (h : novationref10_Of.f a0 a1 = some r) : FSpec Try.prog 53 [(false, [.l (rowsD api_Pos.D a0)]), (false, [.v (.int .i64 a1)])] [.one (.d (.l (rowsD api_Leg.D r)))] := by
  unfold novationref10_Of.f at h
  refine fspec_data mixed Try.func53 rfl (by decide) [0, 1, 4, 5, 6] (rs := [.tmp 4]) rfl (by decide) (n := 39) rfl (by simp) ?_
  refine wgo ?_
  repeat refine cj ?_
  obtain ⟨y2_1, hy2_1, h⟩ := bd h
  refine aCall_of (novationref10_Stock.spec hy2_1) ?_
  refine wgo ?_
  repeat refine cj ?_
  refine kIf2 h (fun hb h => ?_) (fun hb h => ?_)
  obtain rfl := Option.some.inj h
  exact fin
  refine wgo ?_
  repeat refine cj ?_
  obtain ⟨s1, h1, q1⟩ := bd h
  rw [aCode_loop]
  refine aLoop_fx (α := Nat × (List api_Leg) × Int) (fun p => (⟨39, [], [(0, .one (.l (rowsD api_Pos.D a0))), (1, .one (.v (.int .i64 a1))), (4, .own 2 (rowsD api_Leg.D ([] : List api_Leg))), (5, .own 2 (rowsD api_Leg.D p.2.1)), (6, .one (.v (.int .i64 p.2.2)))]⟩ : S)) (fun p => novationref10_Of.l0 a0 a1 p.1 p.2.1 p.2.2 = some s1) (fun p => p.1) (FUEL, ([] : List api_Leg), 0) h1 ?_ ?_
  exact fxs
  rintro ⟨k1, x5_1, x6_1⟩ h
  simp only at h
  obtain _ | k1 := k1
  exact absurd h (by simp [novationref10_Of.l0])
  rw [novationref10_Of.l0] at h
  refine wgo ?_
  repeat refine cj ?_
  refine kIf2 h (fun hb h => ?_) (fun hb h => ?_)
  obtain ⟨⟨hg7_2_0, hg7_2_1⟩, h⟩ := gd h
  refine wgo ?_
  repeat refine cj ?_
  refine kIf2 h (fun hb h => ?_) (fun hb h => ?_)
  obtain ⟨hg8_13, h⟩ := gd h
  refine wgo ?_
  repeat refine cj ?_
  refine Round.fx (k1, x5_1 ++ ([(⟨(rd a0 x6_1).Inst, (rd a0 x6_1).Q⟩ : api_Leg)]), IntKind.i64.wrap (x6_1 + 1)) h (Nat.lt_succ_self k1) ?_
  exact fxs
  refine wgo ?_
  repeat refine cj ?_
  refine Round.fx (k1, x5_1, IntKind.i64.wrap (x6_1 + 1)) h (Nat.lt_succ_self k1) ?_
  exact fxs
  obtain rfl := Option.some.inj h
  have h := q1
  try dsimp only at h
  obtain rfl := Option.some.inj h
  exact fin
end Go.Ax

/- The walk of novationlaw13_StockAll, printed by gen.py. -/
set_option linter.unusedSimpArgs false
set_option linter.unusedVariables false
namespace Go.Ax
open Go Go.Proofs
set_option maxRecDepth 100000
set_option maxHeartbeats 4000000
theorem novationlaw13_StockAll.spec {a0 : List api_Pos} {a1 : Int} {a2 : Int} {a3 : Int} {r : Bool} (h : novationlaw13_StockAll.f a0 a1 a2 a3 = some r) : FSpec Try.prog 9 [(false, [.l (rowsD api_Pos.D a0)]), (false, [.v (.int .i64 a1)]), (false, [.v (.int .i64 a2)]), (false, [.v (.int .i64 a3)])] [.one (.d (.v (.bool r)))] := by
  unfold novationlaw13_StockAll.f at h
  refine fspec_data mixed Try.func9 rfl (by decide) [0, 1, 2, 3, 8] (rs := [.tmp 8]) rfl (by decide) (n := 66) rfl (by simp) ?_
  refine wgo ?_
  repeat refine cj ?_
  obtain ⟨y1_0, hy1_0, h⟩ := bd h
  refine aCall_of (novationlaw13_known.spec hy1_0) ?_
  refine wgo ?_
  repeat refine cj ?_
  refine kIf2 h (fun hb h => ?_) (fun hb h => ?_)
  obtain rfl := Option.some.inj h
  exact fin
  refine wgo ?_
  repeat refine cj ?_
  refine kIf2 h (fun hb h => ?_) (fun hb h => ?_)
  obtain rfl := Option.some.inj h
  exact fin
  refine wgo ?_
  repeat refine cj ?_
  obtain ⟨y5_1, hy5_1, h⟩ := bd h
  refine aCall_of (stock_Right.spec hy5_1) ?_
  refine wgo ?_
  repeat refine cj ?_
  obtain ⟨y5_3, hy5_3, h⟩ := bd h
  refine aCall_of (novationref10_Stock.spec hy5_3) ?_
  refine wgo ?_
  repeat refine cj ?_
  refine kIf2 h (fun hb h => ?_) (fun hb h => ?_)
  refine wgo ?_
  repeat refine cj ?_
  obtain ⟨y5_9, hy5_9, h⟩ := bd h
  refine aCall_of (stock_Get.spec hy5_9) ?_
  refine wgo ?_
  repeat refine cj ?_
  obtain ⟨y5_13, hy5_13, h⟩ := bd h
  refine aCall_of (novationref10_Held.spec hy5_13) ?_
  refine wgo ?_
  repeat refine cj ?_
  refine kIf2 h (fun hb h => ?_) (fun hb h => ?_)
  refine wgo ?_
  repeat refine cj ?_
  obtain ⟨y5_19, hy5_19, h⟩ := bd h
  refine aCall_of (stock_Of.spec hy5_19) ?_
  refine wgo ?_
  repeat refine cj ?_
  obtain ⟨y5_22, hy5_22, h⟩ := bd h
  refine aCall_of (novationref10_Of.spec hy5_22) ?_
  refine wgo ?_
  repeat refine cj ?_
  obtain ⟨y5_23, hy5_23, h⟩ := bd h
  refine aCall_of (novationhelp_Legs.spec hy5_23) ?_
  refine wgo ?_
  repeat refine cj ?_
  refine kIf2 h (fun hb h => ?_) (fun hb h => ?_)
  refine wgo ?_
  repeat refine cj ?_
  obtain ⟨y5_28, hy5_28, h⟩ := bd h
  refine aCall_of (stock_Sum.spec hy5_28) ?_
  refine wgo ?_
  repeat refine cj ?_
  obtain ⟨y5_31, hy5_31, h⟩ := bd h
  refine aCall_of (novationref10_SumInst.spec hy5_31) ?_
  refine wgo ?_
  repeat refine cj ?_
  obtain ⟨y5_32, hy5_32, h⟩ := bd h
  refine aCall_of (novationhelp_Wide.spec hy5_32) ?_
  refine wgo ?_
  repeat refine cj ?_
  refine kIf2 h (fun hb h => ?_) (fun hb h => ?_)
  refine wgo ?_
  repeat refine cj ?_
  obtain ⟨y5_36, hy5_36, h⟩ := bd h
  refine aCall_of (stock_Flat.spec hy5_36) ?_
  refine wgo ?_
  repeat refine cj ?_
  obtain ⟨y5_38, hy5_38, h⟩ := bd h
  refine aCall_of (novationref10_Flat.spec hy5_38) ?_
  refine wgo ?_
  repeat refine cj ?_
  refine kIf2 h (fun hb h => ?_) (fun hb h => ?_)
  refine wgo ?_
  repeat refine cj ?_
  obtain ⟨y5_45, hy5_45, h⟩ := bd h
  refine aCall_of (stock_All.spec hy5_45) ?_
  refine wgo ?_
  repeat refine cj ?_
  obtain ⟨y5_49, hy5_49, h⟩ := bd h
  refine aCall_of (novationref10_All.spec hy5_49) ?_
  refine wgo ?_
  repeat refine cj ?_
  obtain ⟨y5_50, hy5_50, h⟩ := bd h
  refine aCall_of (novationhelp_Shifts.spec hy5_50) ?_
  obtain rfl := Option.some.inj h
  exact fin
  obtain rfl := Option.some.inj h
  exact fin
  obtain rfl := Option.some.inj h
  exact fin
  obtain rfl := Option.some.inj h
  exact fin
  obtain rfl := Option.some.inj h
  exact fin
  obtain rfl := Option.some.inj h
  exact fin
end Go.Ax
