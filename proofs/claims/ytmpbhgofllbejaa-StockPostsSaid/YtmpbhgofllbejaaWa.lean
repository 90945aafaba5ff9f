/- The walk of novationhelp_Legs, printed by gen.py. -/
import Derived.Test.YtmpbhgofllbejaaGa
import Derived.Test.YtmpbhgofllbejaaGs
import Derived.Test.YtmpbhgofllbejaaIna
set_option linter.unusedVariables false
set_option linter.unusedSimpArgs false
set_option linter.unusedSimpArgs false
set_option linter.unusedVariables false
namespace Go.Ax
open Go Go.Proofs
set_option maxRecDepth 100000
set_option maxHeartbeats 4000000
theorem novationhelp_Legs.spec {a0 : List api_Leg} {a1 : List api_Leg} {r : Bool} (h : novationhelp_Legs.f a0 a1 = some r) : FSpec Try.prog 51 [(false, [.l (rowsD api_Leg.D a0)]), (false, [.l (rowsD api_Leg.D a1)])] [.one (.d (.v (.bool r)))] := by
  unfold novationhelp_Legs.f at h
  refine fspec_data mixed Try.func51 rfl (by decide) [0, 1, 4, 5] (rs := [.tmp 4]) rfl (by decide) (n := 26) rfl (by simp) ?_
  refine wgo ?_
  repeat refine cj ?_
  refine kIf2 h (fun hb h => ?_) (fun hb h => ?_)
  obtain rfl := Option.some.inj h
  exact fin
  refine wgo ?_
  repeat refine cj ?_
  obtain ⟨f1, h1, q1⟩ := bd h
  rw [aCode_loop]
  refine aLoop_fx (α := Nat × Int) (fun p => (⟨26, [], [(0, .one (.l (rowsD api_Leg.D a0))), (1, .one (.l (rowsD api_Leg.D a1))), (4, .one (.v (.bool false))), (5, .one (.v (.int .i64 p.2)))]⟩ : S)) (fun p => novationhelp_Legs.l0 a0 a1 p.1 p.2 = some f1) (fun p => p.1) (FUEL, 0) h1 ?_ ?_
  exact fxs
  rintro ⟨k1, x5_1⟩ h
  simp only at h
  obtain _ | k1 := k1
  exact absurd h (by simp [novationhelp_Legs.l0])
  rw [novationhelp_Legs.l0] at h
  refine wgo ?_
  repeat refine cj ?_
  refine kIf2 h (fun hb h => ?_) (fun hb h => ?_)
  obtain ⟨⟨hg6_2_0, hg6_2_1⟩, h⟩ := gd h
  obtain ⟨⟨hg6_6_0, hg6_6_1⟩, h⟩ := gd h
  refine wgo ?_
  repeat refine cj ?_
  refine kIf2 h (fun hb h => ?_) (fun hb h => ?_)
  obtain rfl := Option.some.inj h
  have h := q1
  simp only [Flow.go_ret, Flow.goL_ret] at h
  obtain rfl := Option.some.inj h
  exact fin
  refine wgo ?_
  repeat refine cj ?_
  refine Round.fx (k1, IntKind.i64.wrap (x5_1 + 1)) h (Nat.lt_succ_self k1) ?_
  exact fxs
  obtain rfl := Option.some.inj h
  have h := q1
  simp only [Flow.go_out, Flow.goL_out] at h
  try dsimp only at h
  obtain rfl := Option.some.inj h
  exact fin
end Go.Ax

/- The walk of novationhelp_Stock, printed by gen.py. -/
set_option linter.unusedSimpArgs false
set_option linter.unusedVariables false
namespace Go.Ax
open Go Go.Proofs
set_option maxRecDepth 100000
set_option maxHeartbeats 4000000
theorem novationhelp_Stock.spec {a0 : List api_Pos} {a1 : List api_Pos} {r : Bool} (h : novationhelp_Stock.f a0 a1 = some r) : FSpec Try.prog 107 [(false, [.l (rowsD api_Pos.D a0)]), (false, [.l (rowsD api_Pos.D a1)])] [.one (.d (.v (.bool r)))] := by
  unfold novationhelp_Stock.f at h
  refine fspec_data mixed Try.func107 rfl (by decide) [0, 1, 4, 5] (rs := [.tmp 4]) rfl (by decide) (n := 26) rfl (by simp) ?_
  refine wgo ?_
  repeat refine cj ?_
  refine kIf2 h (fun hb h => ?_) (fun hb h => ?_)
  obtain rfl := Option.some.inj h
  exact fin
  refine wgo ?_
  repeat refine cj ?_
  obtain ⟨f1, h1, q1⟩ := bd h
  rw [aCode_loop]
  refine aLoop_fx (α := Nat × Int) (fun p => (⟨26, [], [(0, .one (.l (rowsD api_Pos.D a0))), (1, .one (.l (rowsD api_Pos.D a1))), (4, .one (.v (.bool false))), (5, .one (.v (.int .i64 p.2)))]⟩ : S)) (fun p => novationhelp_Stock.l0 a0 a1 p.1 p.2 = some f1) (fun p => p.1) (FUEL, 0) h1 ?_ ?_
  exact fxs
  rintro ⟨k1, x5_1⟩ h
  simp only at h
  obtain _ | k1 := k1
  exact absurd h (by simp [novationhelp_Stock.l0])
  rw [novationhelp_Stock.l0] at h
  refine wgo ?_
  repeat refine cj ?_
  refine kIf2 h (fun hb h => ?_) (fun hb h => ?_)
  obtain ⟨⟨hg6_2_0, hg6_2_1⟩, h⟩ := gd h
  obtain ⟨⟨hg6_6_0, hg6_6_1⟩, h⟩ := gd h
  refine wgo ?_
  repeat refine cj ?_
  refine kIf2 h (fun hb h => ?_) (fun hb h => ?_)
  obtain rfl := Option.some.inj h
  have h := q1
  simp only [Flow.go_ret, Flow.goL_ret] at h
  obtain rfl := Option.some.inj h
  exact fin
  refine wgo ?_
  repeat refine cj ?_
  refine Round.fx (k1, IntKind.i64.wrap (x5_1 + 1)) h (Nat.lt_succ_self k1) ?_
  exact fxs
  obtain rfl := Option.some.inj h
  have h := q1
  simp only [Flow.go_out, Flow.goL_out] at h
  try dsimp only at h
  obtain rfl := Option.some.inj h
  exact fin
end Go.Ax

/- The walk of stock_Quantity, printed by gen.py. -/
set_option linter.unusedSimpArgs false
set_option linter.unusedVariables false
namespace Go.Ax
open Go Go.Proofs
set_option maxRecDepth 100000
set_option maxHeartbeats 4000000
theorem stock_Quantity.spec {a0 : Int} {r : Bool} (h : stock_Quantity.f a0 = some r) : FSpec Try.prog 109 [(false, [.v (.int .i64 a0)])] [.one (.d (.v (.bool r)))] := by
  unfold stock_Quantity.f at h
  refine fspec_data mixed Try.func109 rfl (by decide) [0, 2] (rs := [.tmp 2]) rfl (by decide) (n := 5) rfl (by simp) ?_
  obtain rfl := Option.some.inj h
  exact fin
end Go.Ax

/- The walk of stock_key, printed by gen.py. -/
set_option linter.unusedSimpArgs false
set_option linter.unusedVariables false
namespace Go.Ax
open Go Go.Proofs
set_option maxRecDepth 100000
set_option maxHeartbeats 4000000
theorem stock_key.spec {a0 : Int} {a1 : Int} {r : Bool} (h : stock_key.f a0 a1 = some r) : FSpec Try.prog 108 [(false, [.v (.int .i64 a0)]), (false, [.v (.int .i64 a1)])] [.one (.d (.v (.bool r)))] := by
  unfold stock_key.f at h
  refine fspec_data mixed Try.func108 rfl (by decide) [0, 1, 4] (rs := [.tmp 4]) rfl (by decide) (n := 19) rfl (by simp) ?_
  refine wgo ?_
  repeat refine cj ?_
  refine kIf2 h (fun hb h => ?_) (fun hb h => ?_)
  refine wgo ?_
  repeat refine cj ?_
  refine kIf2 h (fun hb h => ?_) (fun hb h => ?_)
  refine wgo ?_
  repeat refine cj ?_
  refine kIf2 h (fun hb h => ?_) (fun hb h => ?_)
  obtain rfl := Option.some.inj h
  exact fin
  obtain rfl := Option.some.inj h
  exact fin
  obtain rfl := Option.some.inj h
  exact fin
  obtain rfl := Option.some.inj h
  exact fin
end Go.Ax

/- The walk of stock_order, printed by gen.py. -/
set_option linter.unusedSimpArgs false
set_option linter.unusedVariables false
namespace Go.Ax
open Go Go.Proofs
set_option maxRecDepth 100000
set_option maxHeartbeats 4000000
theorem stock_order.spec {a0 : Int} {a1 : Int} {a2 : api_Pos} {r : Int} (h : stock_order.f a0 a1 a2 = some r) : FSpec Try.prog 110 [(false, [.v (.int .i64 a0)]), (false, [.v (.int .i64 a1)]), (true, api_Pos.D a2)] [.one (.d (.v (.int .i64 r)))] := by
  unfold stock_order.f at h
  refine fspec_data mixed Try.func110 rfl (by decide) [0, 1, 2, 5, 6] (rs := [.tmp 6]) rfl (by decide) (n := 19) rfl (by simp) ?_
  refine wgo ?_
  repeat refine cj ?_
  refine kIf2 h (fun hb h => ?_) (fun hb h => ?_)
  obtain rfl := Option.some.inj h
  exact fin
  obtain rfl := Option.some.inj h
  exact fin
end Go.Ax

/- The walk of stock_Right, printed by gen.py. -/
set_option linter.unusedSimpArgs false
set_option linter.unusedVariables false
namespace Go.Ax
open Go Go.Proofs
set_option maxRecDepth 100000
set_option maxHeartbeats 4000000
theorem stock_Right.spec {a0 : List api_Pos} {r : Bool} (h : stock_Right.f a0 = some r) : FSpec Try.prog 47 [(false, [.l (rowsD api_Pos.D a0)])] [.one (.d (.v (.bool r)))] := by
  unfold stock_Right.f at h
  refine fspec_data mixed Try.func47 rfl (by decide) [0, 2, 3, 4, 5, 6, 7] (rs := [.tmp 2]) rfl (by decide) (n := 47) rfl (by simp) ?_
  refine wgo ?_
  repeat refine cj ?_
  obtain ⟨f0, h0, q0⟩ := bd h
  rw [aCode_loop]
  refine aLoop_fx (α := Nat × Int) (fun p => (⟨47, [], [(0, .one (.l (rowsD api_Pos.D a0))), (2, .one (.v (.bool false))), (3, .none), (4, .none), (5, .one (.l (rowsD api_Pos.D a0))), (6, .one (.v (.int .i64 (a0.length : Int)))), (7, .one (.v (.int .i64 p.2)))]⟩ : S)) (fun p => stock_Right.l0 a0 p.1 p.2 = some f0) (fun p => p.1) (FUEL, 0) h0 ?_ ?_
  exact fxs
  rintro ⟨k0, x7_0⟩ h
  simp only at h
  obtain _ | k0 := k0
  exact absurd h (by simp [stock_Right.l0])
  rw [stock_Right.l0] at h
  refine wgo ?_
  repeat refine cj ?_
  refine kIf2 h (fun hb h => ?_) (fun hb h => ?_)
  obtain ⟨⟨hg3_1_0, hg3_1_1⟩, h⟩ := gd h
  refine wgo ?_
  repeat refine cj ?_
  obtain ⟨y4_4, hy4_4, h⟩ := bd h
  refine aCall_of (stock_key.spec hy4_4) ?_
  refine wgo ?_
  repeat refine cj ?_
  refine kIf3 h (fun hb h => ?_) (fun hb h => ?_)
  refine wgo ?_
  repeat refine cj ?_
  refine kIf3 h (fun hb h => ?_) (fun hb h => ?_)
  refine wgo ?_
  repeat refine cj ?_
  obtain ⟨y4_14, hy4_14, h⟩ := bd h
  refine aCall_of (stock_Quantity.spec hy4_14) ?_
  refine wgo ?_
  repeat refine cj ?_
  refine kIf3 h (fun hb h => ?_) (fun hb h => ?_)
  refine wgo ?_
  repeat refine cj ?_
  refine kIf2 h (fun hb h => ?_) (fun hb h => ?_)
  obtain ⟨⟨hg4_28_0, hg4_28_1⟩, h⟩ := gd h
  refine wgo ?_
  repeat refine cj ?_
  obtain ⟨y4_30, hy4_30, h⟩ := bd h
  have e := stock_order.spec hy4_30
  try simp only [go_sem, List.map_set, rowsD_append, rowsD_cons, rowsD_nil, rowsD_set, rowsD_take, rowsD_drop, rowsD_replicate] at e
  refine aCall_of e ?_
  refine wgo ?_
  repeat refine cj ?_
  refine kIf2 h (fun hb h => ?_) (fun hb h => ?_)
  obtain rfl := Option.some.inj h
  have h := q0
  simp only [Flow.go_ret, Flow.goL_ret] at h
  obtain rfl := Option.some.inj h
  exact fin
  refine wgo ?_
  repeat refine cj ?_
  refine Round.fx (k0, IntKind.i64.wrap (x7_0 + 1)) h (Nat.lt_succ_self k0) ?_
  exact fxs
  refine wgo ?_
  repeat refine cj ?_
  refine Round.fx (k0, IntKind.i64.wrap (x7_0 + 1)) h (Nat.lt_succ_self k0) ?_
  exact fxs
  obtain rfl := Option.some.inj h
  have h := q0
  simp only [Flow.go_ret, Flow.goL_ret] at h
  obtain rfl := Option.some.inj h
  exact fin
  obtain rfl := Option.some.inj h
  have h := q0
  simp only [Flow.go_ret, Flow.goL_ret] at h
  obtain rfl := Option.some.inj h
  exact fin
  obtain rfl := Option.some.inj h
  have h := q0
  simp only [Flow.go_ret, Flow.goL_ret] at h
  obtain rfl := Option.some.inj h
  exact fin
  obtain rfl := Option.some.inj h
  have h := q0
  simp only [Flow.go_out, Flow.goL_out] at h
  try dsimp only at h
  obtain rfl := Option.some.inj h
  exact fin
end Go.Ax

/- The walk of stock_Of, printed by gen.py. -/
set_option linter.unusedSimpArgs false
set_option linter.unusedVariables false
namespace Go.Ax
open Go Go.Proofs
set_option maxRecDepth 100000
set_option maxHeartbeats 4000000
theorem stock_Of.spec {a0 : List api_Pos} {a1 : Int} {r : (List api_Leg)} (h : stock_Of.f a0 a1 = some r) : FSpec Try.prog 52 [(false, [.l (rowsD api_Pos.D a0)]), (false, [.v (.int .i64 a1)])] [.one (.d (.l (rowsD api_Leg.D r)))] := by
  unfold stock_Of.f at h
  refine fspec_data mixed Try.func52 rfl (by decide) [0, 1, 4, 5, 7, 11, 12, 13] (rs := [.tmp 4]) rfl (by decide) (n := 31) rfl (by simp) ?_
  refine wgo ?_
  repeat refine cj ?_
  obtain ⟨y1_1, hy1_1, h⟩ := bd h
  refine aCall_of (stock_Right.spec hy1_1) ?_
  refine wgo ?_
  repeat refine cj ?_
  refine kIf2 h (fun hb h => ?_) (fun hb h => ?_)
  obtain rfl := Option.some.inj h
  exact fin
  refine wgo ?_
  repeat refine cj ?_
  obtain ⟨s1, h1, q1⟩ := bd h
  rw [aCode_loop]
  refine aLoop_fx (α := Nat × (List api_Leg) × Int) (fun p => (⟨31, [], [(0, .one (.l (rowsD api_Pos.D a0))), (1, .one (.v (.int .i64 a1))), (4, .own 2 (rowsD api_Leg.D ([] : List api_Leg))), (5, .own 2 (rowsD api_Leg.D p.2.1)), (7, .none), (11, .one (.l (rowsD api_Pos.D a0))), (12, .one (.v (.int .i64 (a0.length : Int)))), (13, .one (.v (.int .i64 p.2.2)))]⟩ : S)) (fun p => stock_Of.l0 a0 a1 p.1 p.2.1 p.2.2 = some s1) (fun p => p.1) (FUEL, ([] : List api_Leg), 0) h1 ?_ ?_
  exact fxs
  rintro ⟨k1, x5_1, x13_1⟩ h
  simp only at h
  obtain _ | k1 := k1
  exact absurd h (by simp [stock_Of.l0])
  rw [stock_Of.l0] at h
  refine wgo ?_
  repeat refine cj ?_
  refine kIf2 h (fun hb h => ?_) (fun hb h => ?_)
  obtain ⟨⟨hg6_0_0, hg6_0_1⟩, h⟩ := gd h
  refine wgo ?_
  repeat refine cj ?_
  refine kIf2 h (fun hb h => ?_) (fun hb h => ?_)
  obtain ⟨hg8_7, h⟩ := gd h
  refine wgo ?_
  repeat refine cj ?_
  refine Round.fx (k1, x5_1 ++ ([(⟨(rd a0 x13_1).Inst, (rd a0 x13_1).Q⟩ : api_Leg)]), IntKind.i64.wrap (x13_1 + 1)) h (Nat.lt_succ_self k1) ?_
  exact fxs
  refine wgo ?_
  repeat refine cj ?_
  refine Round.fx (k1, x5_1, IntKind.i64.wrap (x13_1 + 1)) h (Nat.lt_succ_self k1) ?_
  exact fxs
  obtain rfl := Option.some.inj h
  have h := q1
  try dsimp only at h
  obtain rfl := Option.some.inj h
  exact fin
end Go.Ax

/- The walk of stock_All, printed by gen.py. -/
set_option linter.unusedSimpArgs false
set_option linter.unusedVariables false
namespace Go.Ax
open Go Go.Proofs
set_option maxRecDepth 100000
set_option maxHeartbeats 4000000
theorem stock_All.spec {a0 : List api_Pos} {a1 : Int} {a2 : Int} {r : (List api_Shift)} (h : stock_All.f a0 a1 a2 = some r) : FSpec Try.prog 59 [(false, [.l (rowsD api_Pos.D a0)]), (false, [.v (.int .i64 a1)]), (false, [.v (.int .i64 a2)])] [.one (.d (.l (rowsD api_Shift.D r)))] := by
  unfold stock_All.f at h
  refine fspec_data mixed Try.func59 rfl (by decide) [0, 1, 2, 6, 7, 9, 30, 31, 32] (rs := [.tmp 6]) rfl (by decide) (n := 54) rfl (by simp) ?_
  refine wgo ?_
  repeat refine cj ?_
  obtain ⟨y1_1, hy1_1, h⟩ := bd h
  refine aCall_of (stock_Right.spec hy1_1) ?_
  refine wgo ?_
  repeat refine cj ?_
  refine kIf3 h (fun hb h => ?_) (fun hb h => ?_)
  refine wgo ?_
  repeat refine cj ?_
  obtain ⟨y1_5, hy1_5, h⟩ := bd h
  refine aCall_of (stock_key.spec hy1_5) ?_
  refine wgo ?_
  repeat refine cj ?_
  refine kIf3 h (fun hb h => ?_) (fun hb h => ?_)
  refine wgo ?_
  repeat refine cj ?_
  obtain ⟨y1_10, hy1_10, h⟩ := bd h
  refine aCall_of (stock_key.spec hy1_10) ?_
  refine wgo ?_
  repeat refine cj ?_
  refine kIf3 h (fun hb h => ?_) (fun hb h => ?_)
  refine wgo ?_
  repeat refine cj ?_
  refine kIf2 h (fun hb h => ?_) (fun hb h => ?_)
  obtain rfl := Option.some.inj h
  exact fin
  refine wgo ?_
  repeat refine cj ?_
  obtain ⟨y4_2, hy4_2, h⟩ := bd h
  refine aCall_of (stock_Of.spec hy4_2) ?_
  refine wgo ?_
  repeat refine cj ?_
  obtain ⟨s1, h1, q1⟩ := bd h
  rw [aCode_loop]
  refine aLoop_fx (α := Nat × (List api_Shift) × Int) (fun p => (⟨54, [], [(0, .one (.l (rowsD api_Pos.D a0))), (1, .one (.v (.int .i64 a1))), (2, .one (.v (.int .i64 a2))), (6, .own 3 (rowsD api_Shift.D ([] : List api_Shift))), (7, .own 3 (rowsD api_Shift.D p.2.1)), (9, .none), (30, .one (.l (rowsD api_Leg.D y4_2))), (31, .one (.v (.int .i64 (y4_2.length : Int)))), (32, .one (.v (.int .i64 p.2.2)))]⟩ : S)) (fun p => stock_All.l0 a1 a2 y4_2 p.1 p.2.1 p.2.2 = some s1) (fun p => p.1) (FUEL, ([] : List api_Shift), 0) h1 ?_ ?_
  exact fxs
  rintro ⟨k1, x7_1, x32_1⟩ h
  simp only at h
  obtain _ | k1 := k1
  exact absurd h (by simp [stock_All.l0])
  rw [stock_All.l0] at h
  refine wgo ?_
  repeat refine cj ?_
  refine kIf2 h (fun hb h => ?_) (fun hb h => ?_)
  obtain ⟨⟨hg6_0_0, hg6_0_1⟩, h⟩ := gd h
  obtain ⟨hg7_15, h⟩ := gd h
  refine wgo ?_
  repeat refine cj ?_
  refine Round.fx (k1, x7_1 ++ ([(⟨a1, (rd y4_2 x32_1).Inst, IntKind.i64.wrap (0 - (rd y4_2 x32_1).Q)⟩ : api_Shift), (⟨a2, (rd y4_2 x32_1).Inst, (rd y4_2 x32_1).Q⟩ : api_Shift)]), IntKind.i64.wrap (x32_1 + 1)) h (Nat.lt_succ_self k1) ?_
  exact fxs
  obtain rfl := Option.some.inj h
  have h := q1
  try dsimp only at h
  obtain rfl := Option.some.inj h
  exact fin
  obtain rfl := Option.some.inj h
  exact fin
  obtain rfl := Option.some.inj h
  exact fin
  obtain rfl := Option.some.inj h
  exact fin
end Go.Ax

/- The walk of stock_Sum, printed by gen.py. -/
set_option linter.unusedSimpArgs false
set_option linter.unusedVariables false
namespace Go.Ax
open Go Go.Proofs
set_option maxRecDepth 100000
set_option maxHeartbeats 4000000
theorem stock_Sum.spec {a0 : List api_Pos} {a1 : Int} {r : Int} (h : stock_Sum.f a0 a1 = some r) : FSpec Try.prog 54 [(false, [.l (rowsD api_Pos.D a0)]), (false, [.v (.int .i64 a1)])] [.agg (wD r)] := by
  unfold stock_Sum.f at h
  refine fspec_data mixed Try.func54 rfl (by decide) [0, 1, 4, 5, 7, 8, 14, 15, 16] (rs := [.cell 4 59]) rfl (by decide) (n := 37) rfl (by simp) ?_
  refine wgo ?_
  repeat refine cj ?_
  obtain ⟨y1_1, hy1_1, h⟩ := bd h
  refine aCall_of (stock_Right.spec hy1_1) ?_
  refine wgo ?_
  repeat refine cj ?_
  refine kIf2 h (fun hb h => ?_) (fun hb h => ?_)
  obtain rfl := Option.some.inj h
  exact fin
  refine wgo ?_
  repeat refine cj ?_
  obtain ⟨s1, h1, q1⟩ := bd h
  rw [aCode_loop]
  refine aLoop_fx (α := Nat × (List Int) × Int) (fun p => (⟨37, [], [(0, .one (.l (rowsD api_Pos.D a0))), (1, .one (.v (.int .i64 a1))), (4, .box [.d (.v (.int .i64 (wHi 0))), .d (.v (.int .u64 (wLo 0)))]), (5, .own 2 (rowsD wD p.2.1)), (7, .none), (8, .none), (14, .one (.l (rowsD api_Pos.D a0))), (15, .one (.v (.int .i64 (a0.length : Int)))), (16, .one (.v (.int .i64 p.2.2)))]⟩ : S)) (fun p => stock_Sum.l0 a0 a1 p.1 p.2.1 p.2.2 = some s1) (fun p => p.1) (FUEL, ([] : List Int), 0) h1 ?_ ?_
  exact fxs
  rintro ⟨k1, x5_1, x16_1⟩ h
  simp only at h
  obtain _ | k1 := k1
  exact absurd h (by simp [stock_Sum.l0])
  rw [stock_Sum.l0] at h
  refine wgo ?_
  repeat refine cj ?_
  refine kIf2 h (fun hb h => ?_) (fun hb h => ?_)
  obtain ⟨⟨hg6_0_0, hg6_0_1⟩, h⟩ := gd h
  refine wgo ?_
  repeat refine cj ?_
  refine kIf2 h (fun hb h => ?_) (fun hb h => ?_)
  refine wgo ?_
  repeat refine cj ?_
  obtain ⟨y8_3, hy8_3, h⟩ := bd h
  refine aCall_of (wide_Of.spec hy8_3) ?_
  obtain ⟨hg8_5, h⟩ := gd h
  refine wgo ?_
  repeat refine cj ?_
  refine Round.fx (k1, x5_1 ++ ([y8_3]), IntKind.i64.wrap (x16_1 + 1)) h (Nat.lt_succ_self k1) ?_
  exact fxs
  refine wgo ?_
  repeat refine cj ?_
  refine Round.fx (k1, x5_1, IntKind.i64.wrap (x16_1 + 1)) h (Nat.lt_succ_self k1) ?_
  exact fxs
  obtain rfl := Option.some.inj h
  have h := q1
  try dsimp only at h
  refine wgo ?_
  repeat refine cj ?_
  obtain ⟨y10_1, hy10_1, h⟩ := bd h
  refine aCall_of (wide_Sum.spec hy10_1) ?_
  obtain rfl := Option.some.inj h
  exact fin
end Go.Ax

/- The walk of stock_Flat, printed by gen.py. -/
set_option linter.unusedSimpArgs false
set_option linter.unusedVariables false
namespace Go.Ax
open Go Go.Proofs
set_option maxRecDepth 100000
set_option maxHeartbeats 4000000
theorem stock_Flat.spec {a0 : List api_Pos} {r : Bool} (h : stock_Flat.f a0 = some r) : FSpec Try.prog 56 [(false, [.l (rowsD api_Pos.D a0)])] [.one (.d (.v (.bool r)))] := by
  unfold stock_Flat.f at h
  refine fspec_data mixed Try.func56 rfl (by decide) [0, 2, 3, 4] (rs := [.tmp 2]) rfl (by decide) (n := 15) rfl (by simp) ?_
  refine wgo ?_
  repeat refine cj ?_
  obtain ⟨f0, h0, q0⟩ := bd h
  rw [aCode_loop]
  refine aLoop_fx (α := Nat × Int) (fun p => (⟨15, [], [(0, .one (.l (rowsD api_Pos.D a0))), (2, .one (.v (.bool false))), (3, .none), (4, .one (.v (.int .i64 p.2)))]⟩ : S)) (fun p => stock_Flat.l0 a0 p.1 p.2 = some f0) (fun p => p.1) (FUEL, 0) h0 ?_ ?_
  exact fxs
  rintro ⟨k0, x4_0⟩ h
  simp only at h
  obtain _ | k0 := k0
  exact absurd h (by simp [stock_Flat.l0])
  rw [stock_Flat.l0] at h
  refine wgo ?_
  repeat refine cj ?_
  refine kIf2 h (fun hb h => ?_) (fun hb h => ?_)
  refine wgo ?_
  repeat refine cj ?_
  obtain ⟨y4_2, hy4_2, h⟩ := bd h
  refine aCall_of (stock_Sum.spec hy4_2) ?_
  refine wgo ?_
  repeat refine cj ?_
  obtain ⟨y4_3, hy4_3, h⟩ := bd h
  refine aCall_of (wide_Sign.spec hy4_3) ?_
  refine wgo ?_
  repeat refine cj ?_
  refine kIf2 h (fun hb h => ?_) (fun hb h => ?_)
  obtain rfl := Option.some.inj h
  have h := q0
  simp only [Flow.go_ret, Flow.goL_ret] at h
  obtain rfl := Option.some.inj h
  exact fin
  refine wgo ?_
  repeat refine cj ?_
  refine Round.fx (k0, IntKind.i64.wrap (x4_0 + 1)) h (Nat.lt_succ_self k0) ?_
  exact fxs
  obtain rfl := Option.some.inj h
  have h := q0
  simp only [Flow.go_out, Flow.goL_out] at h
  try dsimp only at h
  refine wgo ?_
  repeat refine cj ?_
  obtain ⟨y7_1, hy7_1, h⟩ := bd h
  refine aCall_of (stock_Right.spec hy7_1) ?_
  obtain rfl := Option.some.inj h
  exact fin
end Go.Ax

/- The walk of stock_Get, printed by gen.py. -/
set_option linter.unusedSimpArgs false
set_option linter.unusedVariables false
namespace Go.Ax
open Go Go.Proofs
set_option maxRecDepth 100000
set_option maxHeartbeats 4000000
theorem stock_Get.spec {a0 : List api_Pos} {a1 : Int} {a2 : Int} {r : Int} (h : stock_Get.f a0 a1 a2 = some r) : FSpec Try.prog 49 [(false, [.l (rowsD api_Pos.D a0)]), (false, [.v (.int .i64 a1)]), (false, [.v (.int .i64 a2)])] [.one (.d (.v (.int .i64 r)))] := by
  unfold stock_Get.f at h
  refine fspec_data mixed Try.func49 rfl (by decide) [0, 1, 2, 6, 8, 12, 13, 14] (rs := [.tmp 6]) rfl (by decide) (n := 31) rfl (by simp) ?_
  refine wgo ?_
  repeat refine cj ?_
  obtain ⟨y1_1, hy1_1, h⟩ := bd h
  refine aCall_of (stock_Right.spec hy1_1) ?_
  refine wgo ?_
  repeat refine cj ?_
  refine kIf2 h (fun hb h => ?_) (fun hb h => ?_)
  obtain rfl := Option.some.inj h
  exact fin
  refine wgo ?_
  repeat refine cj ?_
  obtain ⟨f1, h1, q1⟩ := bd h
  rw [aCode_loop]
  refine aLoop_fx (α := Nat × Int) (fun p => (⟨31, [], [(0, .one (.l (rowsD api_Pos.D a0))), (1, .one (.v (.int .i64 a1))), (2, .one (.v (.int .i64 a2))), (6, .one (.v (.int .i64 0))), (8, .none), (12, .one (.l (rowsD api_Pos.D a0))), (13, .one (.v (.int .i64 (a0.length : Int)))), (14, .one (.v (.int .i64 p.2)))]⟩ : S)) (fun p => stock_Get.l0 a0 a1 a2 p.1 p.2 = some f1) (fun p => p.1) (FUEL, 0) h1 ?_ ?_
  exact fxs
  rintro ⟨k1, x14_1⟩ h
  simp only at h
  obtain _ | k1 := k1
  exact absurd h (by simp [stock_Get.l0])
  rw [stock_Get.l0] at h
  refine wgo ?_
  repeat refine cj ?_
  refine kIf2 h (fun hb h => ?_) (fun hb h => ?_)
  obtain ⟨⟨hg5_0_0, hg5_0_1⟩, h⟩ := gd h
  refine wgo ?_
  repeat refine cj ?_
  refine kIf2 h (fun hb h => ?_) (fun hb h => ?_)
  refine wgo ?_
  repeat refine cj ?_
  refine kIf2 h (fun hb h => ?_) (fun hb h => ?_)
  obtain rfl := Option.some.inj h
  have h := q1
  simp only [Flow.go_ret, Flow.goL_ret] at h
  obtain rfl := Option.some.inj h
  exact fin
  refine wgo ?_
  repeat refine cj ?_
  refine Round.fx (k1, IntKind.i64.wrap (x14_1 + 1)) h (Nat.lt_succ_self k1) ?_
  exact fxs
  refine wgo ?_
  repeat refine cj ?_
  refine Round.fx (k1, IntKind.i64.wrap (x14_1 + 1)) h (Nat.lt_succ_self k1) ?_
  exact fxs
  obtain rfl := Option.some.inj h
  have h := q1
  simp only [Flow.go_out, Flow.goL_out] at h
  try dsimp only at h
  obtain rfl := Option.some.inj h
  exact fin
end Go.Ax

/- The walk of slices_Clip_api_Pos, printed by gen.py. -/
set_option linter.unusedSimpArgs false
set_option linter.unusedVariables false
namespace Go.Ax
open Go Go.Proofs
set_option maxRecDepth 100000
set_option maxHeartbeats 4000000
theorem slices_Clip_api_Pos.spec {a0 : List api_Pos} {r : (List api_Pos)} (h : slices_Clip_api_Pos.f a0 = some r) : FSpec Try.prog 139 [(false, [.l (rowsD api_Pos.D a0)])] [.one (.d (.l (rowsD api_Pos.D r)))] := by
  unfold slices_Clip_api_Pos.f at h
  refine fspec_data mixed Try.func139 rfl (by decide) [0, 2] (rs := [.tmp 2]) rfl (by decide) (n := 9) rfl (by simp) ?_
  obtain ⟨⟨hg1_5_0, hg1_5_1, hg1_5_2, hg1_5_3⟩, h⟩ := gd h
  obtain rfl := Option.some.inj h
  exact fin
end Go.Ax

/- The walk of slices_Clone_api_Pos, printed by gen.py. -/
set_option linter.unusedSimpArgs false
set_option linter.unusedVariables false
namespace Go.Ax
open Go Go.Proofs
set_option maxRecDepth 100000
set_option maxHeartbeats 4000000
theorem slices_Clone_api_Pos.spec {a0 : List api_Pos} {r : (List api_Pos)} (h : slices_Clone_api_Pos.f a0 = some r) : FSpec Try.prog 137 [(false, [.l (rowsD api_Pos.D a0)])] [.one (.own 3 (rowsD api_Pos.D r))] := by
  unfold slices_Clone_api_Pos.f at h
  refine fspec_mix [true] mixed Try.func137 rfl (by decide) [0, 2] (rs := [.tmp 2]) rfl (by decide) (n := 8) rfl (by simp) ?_
  refine wgo ?_
  repeat refine cj ?_
  refine kNil_of ?_ (fun hb => ?_)
  replace h := nilT_f h
  obtain ⟨hg3_2, h⟩ := gd h
  obtain rfl := Option.some.inj h
  exact fin
  replace h := nilT_t h (rowsD_eq_nil _ hb)
  obtain rfl := Option.some.inj h
  exact fin
end Go.Ax

/- The walk of stock_flat, printed by gen.py. -/
set_option linter.unusedSimpArgs false
set_option linter.unusedVariables false
namespace Go.Ax
open Go Go.Proofs
set_option maxRecDepth 100000
set_option maxHeartbeats 4000000
theorem stock_flat.spec {a0 : List api_Shift} {r : Bool} (h : stock_flat.f a0 = some r) : FSpec Try.prog 136 [(false, [.l (rowsD api_Shift.D a0)])] [.one (.d (.v (.bool r)))] := by
  unfold stock_flat.f at h
  refine fspec_data mixed Try.func136 rfl (by decide) [0, 2, 3, 4, 6, 7, 8, 9, 12, 13, 14] (rs := [.tmp 2]) rfl (by decide) (n := 42) rfl (by simp) ?_
  refine wgo ?_
  repeat refine cj ?_
  obtain ⟨f0, h0, q0⟩ := bd h
  rw [aCode_loop]
  refine aLoop_fx (α := Nat × Int) (fun p => (⟨42, [], [(0, .one (.l (rowsD api_Shift.D a0))), (2, .one (.v (.bool false))), (3, .none), (4, .none), (6, .none), (7, .none), (8, .none), (9, .one (.v (.int .i64 p.2))), (12, .none), (13, .none), (14, .none)]⟩ : S)) (fun p => stock_flat.l0 a0 p.1 p.2 = some f0) (fun p => p.1) (FUEL, 0) h0 ?_ ?_
  exact fxs
  rintro ⟨k0, x9_0⟩ h
  simp only at h
  obtain _ | k0 := k0
  exact absurd h (by simp [stock_flat.l0])
  rw [stock_flat.l0] at h
  refine wgo ?_
  repeat refine cj ?_
  refine kIf2 h (fun hb h => ?_) (fun hb h => ?_)
  refine wgo ?_
  repeat refine cj ?_
  obtain ⟨s2, h2, q2⟩ := bd h
  rw [aCode_loop]
  refine aLoop_fx (α := Nat × (List Int) × Int) (fun p => (⟨42, [], [(0, .one (.l (rowsD api_Shift.D a0))), (2, .one (.v (.bool false))), (3, .one (.v (.int .i64 x9_0))), (4, .own 2 (rowsD wD p.2.1)), (6, .none), (7, .none), (8, .none), (9, .one (.v (.int .i64 x9_0))), (12, .one (.l (rowsD api_Shift.D a0))), (13, .one (.v (.int .i64 (a0.length : Int)))), (14, .one (.v (.int .i64 p.2.2)))]⟩ : S)) (fun p => stock_flat.l1 a0 x9_0 p.1 p.2.1 p.2.2 = some s2) (fun p => p.1) (FUEL, ([] : List Int), 0) h2 ?_ ?_
  exact fxs
  rintro ⟨k2, x4_2, x14_2⟩ h
  simp only at h
  obtain _ | k2 := k2
  exact absurd h (by simp [stock_flat.l1])
  rw [stock_flat.l1] at h
  refine wgo ?_
  repeat refine cj ?_
  refine kIf2 h (fun hb h => ?_) (fun hb h => ?_)
  obtain ⟨⟨hg7_0_0, hg7_0_1⟩, h⟩ := gd h
  refine wgo ?_
  repeat refine cj ?_
  refine kIf2 h (fun hb h => ?_) (fun hb h => ?_)
  refine wgo ?_
  repeat refine cj ?_
  obtain ⟨y9_3, hy9_3, h⟩ := bd h
  refine aCall_of (wide_Of.spec hy9_3) ?_
  obtain ⟨hg9_5, h⟩ := gd h
  refine wgo ?_
  repeat refine cj ?_
  refine Round.fx (k2, x4_2 ++ ([y9_3]), IntKind.i64.wrap (x14_2 + 1)) h (Nat.lt_succ_self k2) ?_
  exact fxs
  refine wgo ?_
  repeat refine cj ?_
  refine Round.fx (k2, x4_2, IntKind.i64.wrap (x14_2 + 1)) h (Nat.lt_succ_self k2) ?_
  exact fxs
  obtain rfl := Option.some.inj h
  have h := q2
  try dsimp only at h
  refine wgo ?_
  repeat refine cj ?_
  obtain ⟨y11_1, hy11_1, h⟩ := bd h
  refine aCall_of (wide_Sum.spec hy11_1) ?_
  refine wgo ?_
  repeat refine cj ?_
  refine kIf3 h (fun hb h => ?_) (fun hb h => ?_)
  refine wgo ?_
  repeat refine cj ?_
  obtain ⟨y12_4, hy12_4, h⟩ := bd h
  refine aCall_of (wide_Sign.spec hy12_4) ?_
  refine wgo ?_
  repeat refine cj ?_
  refine kIf2 h (fun hb h => ?_) (fun hb h => ?_)
  obtain rfl := Option.some.inj h
  have h := q0
  simp only [Flow.go_ret, Flow.goL_ret] at h
  obtain rfl := Option.some.inj h
  exact fin
  refine wgo ?_
  repeat refine cj ?_
  refine Round.fx (k0, IntKind.i64.wrap (x9_0 + 1)) h (Nat.lt_succ_self k0) ?_
  exact fxs
  obtain rfl := Option.some.inj h
  have h := q0
  simp only [Flow.go_ret, Flow.goL_ret] at h
  obtain rfl := Option.some.inj h
  exact fin
  obtain rfl := Option.some.inj h
  have h := q0
  simp only [Flow.go_out, Flow.goL_out] at h
  try dsimp only at h
  obtain rfl := Option.some.inj h
  exact fin
end Go.Ax

/- The walk of stock_Post, printed by gen.py. -/
set_option linter.unusedSimpArgs false
set_option linter.unusedVariables false
namespace Go.Ax
open Go Go.Proofs
set_option maxRecDepth 100000
set_option maxHeartbeats 4000000
theorem stock_Post.spec {a0 : List api_Pos} {a1 : List api_Shift} {r : (List api_Pos) × Int} (h : stock_Post.f a0 a1 = some r) : FSpec Try.prog 106 [(false, [.l (rowsD api_Pos.D a0)]), (false, [.l (rowsD api_Shift.D a1)])] [.one (.d (.l (rowsD api_Pos.D r.1))), .one (.d (.v (.int .i64 r.2)))] := by
  unfold stock_Post.f at h
  refine fspec_data mixed Try.func106 rfl (by decide) [0, 1, 4, 5, 7, 8, 10, 11, 12, 14, 15, 17, 18, 20, 21, 30, 31, 32, 54, 55, 56, 107, 108, 109, 117, 118, 119] (rs := [.tmp 4, .tmp 5]) rfl (by decide) (n := 173) rfl (by simp) ?_
  refine wgo ?_
  repeat refine cj ?_
  obtain ⟨y1_1, hy1_1, h⟩ := bd h
  refine aCall_of (stock_Right.spec hy1_1) ?_
  refine wgo ?_
  repeat refine cj ?_
  refine kIf3 h (fun hb h => ?_) (fun hb h => ?_)
  refine wgo ?_
  repeat refine cj ?_
  refine kIf2 h (fun hb h => ?_) (fun hb h => ?_)
  obtain rfl := Option.some.inj h
  exact fin
  refine wgo ?_
  repeat refine cj ?_
  obtain ⟨f1, h1, q1⟩ := bd h
  rw [aCode_loop]
  refine aLoop_fx (α := Nat × Int) (fun p => (⟨173, [], [(0, .one (.l (rowsD api_Pos.D a0))), (1, .one (.l (rowsD api_Shift.D a1))), (4, .own 3 (rowsD api_Pos.D ([] : List api_Pos))), (5, .one (.v (.int .i64 0))), (7, .none), (8, .none), (10, .none), (11, .none), (12, .none), (14, .none), (15, .none), (17, .none), (18, .none), (20, .none), (21, .none), (30, .one (.l (rowsD api_Shift.D a1))), (31, .one (.v (.int .i64 (a1.length : Int)))), (32, .one (.v (.int .i64 p.2))), (54, .none), (55, .none), (56, .none), (107, .none), (108, .none), (109, .none), (117, .none), (118, .none), (119, .none)]⟩ : S)) (fun p => stock_Post.l0 a1 p.1 p.2 = some f1) (fun p => p.1) (FUEL, 0) h1 ?_ ?_
  exact fxs
  rintro ⟨k1, x32_1⟩ h
  simp only at h
  obtain _ | k1 := k1
  exact absurd h (by simp [stock_Post.l0])
  rw [stock_Post.l0] at h
  refine wgo ?_
  repeat refine cj ?_
  refine kIf2 h (fun hb h => ?_) (fun hb h => ?_)
  obtain ⟨⟨hg5_0_0, hg5_0_1⟩, h⟩ := gd h
  refine wgo ?_
  repeat refine cj ?_
  obtain ⟨y6_4, hy6_4, h⟩ := bd h
  refine aCall_of (stock_key.spec hy6_4) ?_
  refine wgo ?_
  repeat refine cj ?_
  refine kIf3 h (fun hb h => ?_) (fun hb h => ?_)
  refine wgo ?_
  repeat refine cj ?_
  obtain ⟨y6_9, hy6_9, h⟩ := bd h
  refine aCall_of (stock_Quantity.spec hy6_9) ?_
  refine wgo ?_
  repeat refine cj ?_
  refine kIf2 h (fun hb h => ?_) (fun hb h => ?_)
  obtain rfl := Option.some.inj h
  have h := q1
  simp only [Flow.go_ret, Flow.goL_ret] at h
  obtain rfl := Option.some.inj h
  exact fin
  refine wgo ?_
  repeat refine cj ?_
  refine Round.fx (k1, IntKind.i64.wrap (x32_1 + 1)) h (Nat.lt_succ_self k1) ?_
  exact fxs
  obtain rfl := Option.some.inj h
  have h := q1
  simp only [Flow.go_ret, Flow.goL_ret] at h
  obtain rfl := Option.some.inj h
  exact fin
  obtain rfl := Option.some.inj h
  have h := q1
  simp only [Flow.go_out, Flow.goL_out] at h
  try dsimp only at h
  refine wgo ?_
  repeat refine cj ?_
  obtain ⟨y9_1, hy9_1, h⟩ := bd h
  refine aCall_of (stock_flat.spec hy9_1) ?_
  refine wgo ?_
  repeat refine cj ?_
  refine kIf2 h (fun hb h => ?_) (fun hb h => ?_)
  obtain rfl := Option.some.inj h
  exact fin
  refine wgo ?_
  repeat refine cj ?_
  obtain ⟨y11_1, hy11_1, h⟩ := bd h
  refine aCall_of (slices_Clone_api_Pos.spec hy11_1) ?_
  refine wgo ?_
  repeat refine cj ?_
  obtain ⟨s5, h5, q5⟩ := bd h
  rw [aCode_loop]
  refine aLoop_fx (α := Nat × (List api_Pos) × Int) (fun p => (⟨173, [], [(0, .one (.l (rowsD api_Pos.D a0))), (1, .one (.l (rowsD api_Shift.D a1))), (4, .own 3 (rowsD api_Pos.D ([] : List api_Pos))), (5, .one (.v (.int .i64 0))), (7, .none), (8, .own 3 (rowsD api_Pos.D p.2.1)), (10, .none), (11, .none), (12, .none), (14, .none), (15, .none), (17, .none), (18, .none), (20, .none), (21, .none), (30, .one (.l (rowsD api_Shift.D a1))), (31, .one (.v (.int .i64 (a1.length : Int)))), (32, .one (.v (.int .i64 x32_1))), (54, .one (.l (rowsD api_Shift.D a1))), (55, .one (.v (.int .i64 (a1.length : Int)))), (56, .one (.v (.int .i64 p.2.2))), (107, .none), (108, .none), (109, .none), (117, .none), (118, .none), (119, .none)]⟩ : S)) (fun p => stock_Post.l1 a1 p.1 p.2.1 p.2.2 = some s5) (fun p => p.1) (FUEL, y11_1, 0) h5 ?_ ?_
  exact fxs
  rintro ⟨k5, x8_5, x56_5⟩ h
  simp only at h
  obtain _ | k5 := k5
  exact absurd h (by simp [stock_Post.l1])
  rw [stock_Post.l1] at h
  refine wgo ?_
  repeat refine cj ?_
  refine kIf2 h (fun hb h => ?_) (fun hb h => ?_)
  obtain ⟨⟨hg14_0_0, hg14_0_1⟩, h⟩ := gd h
  refine wgo ?_
  repeat refine cj ?_
  obtain ⟨s7, h7, q7⟩ := bd h
  rw [aCode_loop]
  refine aLoop_fx (α := Nat × Int) (fun p => (⟨173, [], [(0, .one (.l (rowsD api_Pos.D a0))), (1, .one (.l (rowsD api_Shift.D a1))), (4, .own 3 (rowsD api_Pos.D ([] : List api_Pos))), (5, .one (.v (.int .i64 0))), (7, .none), (8, .own 3 (rowsD api_Pos.D x8_5)), (10, .box [.d (.v (.int .i64 (rd a1 x56_5).Acc)), .d (.v (.int .i64 (rd a1 x56_5).Inst)), .d (.v (.int .i64 (rd a1 x56_5).Q))]), (11, .one (.v (.int .i64 p.2))), (12, .none), (14, .none), (15, .none), (17, .none), (18, .none), (20, .none), (21, .none), (30, .one (.l (rowsD api_Shift.D a1))), (31, .one (.v (.int .i64 (a1.length : Int)))), (32, .one (.v (.int .i64 x32_1))), (54, .one (.l (rowsD api_Shift.D a1))), (55, .one (.v (.int .i64 (a1.length : Int)))), (56, .one (.v (.int .i64 x56_5))), (107, .none), (108, .none), (109, .none), (117, .none), (118, .none), (119, .none)]⟩ : S)) (fun p => stock_Post.l2 a1 x8_5 x56_5 p.1 p.2 = some s7) (fun p => p.1) (FUEL, 0) h7 ?_ ?_
  exact fxs
  rintro ⟨k7, x11_7⟩ h
  simp only at h
  obtain _ | k7 := k7
  exact absurd h (by simp [stock_Post.l2])
  rw [stock_Post.l2] at h
  refine wgo ?_
  repeat refine cj ?_
  refine kIf2 h (fun hb h => ?_) (fun hb h => ?_)
  obtain ⟨⟨hg16_11_0, hg16_11_1⟩, h⟩ := gd h
  have hr0 := fun z => rd_in api_Pos.D x8_5 (i := x11_7) z (by omega) (by omega)
  try simp (maxSteps := 2000000) only [go_sem, p_kSeq, ↓reduceIte, reduceCtorEq, Nat.reduceLT, Nat.reduceLeDiff, Nat.reduceEqDiff, Nat.reduceMul, Nat.reduceAdd, Nat.reduceSub, Int.reduceLE, Int.reduceLT, hr0]
  repeat refine cj ?_
  obtain ⟨y16_13, hy16_13, h⟩ := bd h
  have e := stock_order.spec hy16_13
  try simp only [go_sem, List.map_set, rowsD_append, rowsD_cons, rowsD_nil, rowsD_set, rowsD_take, rowsD_drop, rowsD_replicate] at e
  refine aCall_of e ?_
  try simp (maxSteps := 2000000) only [go_sem, p_kSeq, ↓reduceIte, reduceCtorEq, Nat.reduceLT, Nat.reduceLeDiff, Nat.reduceEqDiff, Nat.reduceMul, Nat.reduceAdd, Nat.reduceSub, Int.reduceLE, Int.reduceLT, hr0]
  repeat refine cj ?_
  refine kIf2 h (fun hb h => ?_) (fun hb h => ?_)
  try simp (maxSteps := 2000000) only [go_sem, p_kSeq, ↓reduceIte, reduceCtorEq, Nat.reduceLT, Nat.reduceLeDiff, Nat.reduceEqDiff, Nat.reduceMul, Nat.reduceAdd, Nat.reduceSub, Int.reduceLE, Int.reduceLT, hr0]
  repeat refine cj ?_
  refine Round.fx (k7, IntKind.i64.wrap (x11_7 + 1)) h (Nat.lt_succ_self k7) ?_
  exact fxs
  obtain rfl := Option.some.inj h
  have h := q7
  try dsimp only at h
  try simp (maxSteps := 2000000) only [go_sem, p_kSeq, ↓reduceIte, reduceCtorEq, Nat.reduceLT, Nat.reduceLeDiff, Nat.reduceEqDiff, Nat.reduceMul, Nat.reduceAdd, Nat.reduceSub, Int.reduceLE, Int.reduceLT, hr0]
  repeat refine cj ?_
  refine kIf3 h (fun hb h => ?_) (fun hb h => ?_)
  obtain ⟨⟨hg18_11_0, hg18_11_1⟩, h⟩ := gd h
  have hr1 := fun z => rd_in api_Pos.D x8_5 (i := x11_7) z (by omega) (by omega)
  try simp (maxSteps := 2000000) only [go_sem, p_kSeq, ↓reduceIte, reduceCtorEq, Nat.reduceLT, Nat.reduceLeDiff, Nat.reduceEqDiff, Nat.reduceMul, Nat.reduceAdd, Nat.reduceSub, Int.reduceLE, Int.reduceLT, hr0, hr1]
  repeat refine cj ?_
  obtain ⟨y18_13, hy18_13, h⟩ := bd h
  have e := stock_order.spec hy18_13
  try simp only [go_sem, List.map_set, rowsD_append, rowsD_cons, rowsD_nil, rowsD_set, rowsD_take, rowsD_drop, rowsD_replicate] at e
  refine aCall_of e ?_
  try simp (maxSteps := 2000000) only [go_sem, p_kSeq, ↓reduceIte, reduceCtorEq, Nat.reduceLT, Nat.reduceLeDiff, Nat.reduceEqDiff, Nat.reduceMul, Nat.reduceAdd, Nat.reduceSub, Int.reduceLE, Int.reduceLT, hr0, hr1]
  repeat refine cj ?_
  refine kIf2 h (fun hb h => ?_) (fun hb h => ?_)
  try simp (maxSteps := 2000000) only [go_sem, p_kSeq, ↓reduceIte, reduceCtorEq, Nat.reduceLT, Nat.reduceLeDiff, Nat.reduceEqDiff, Nat.reduceMul, Nat.reduceAdd, Nat.reduceSub, Int.reduceLE, Int.reduceLT, hr0, hr1]
  repeat refine cj ?_
  obtain ⟨y19_8, hy19_8, h⟩ := bd h
  have e := slices_Insert_api_Pos.spec hy19_8
  try simp only [go_sem, List.map_set, rowsD_append, rowsD_cons, rowsD_nil, rowsD_set, rowsD_take, rowsD_drop, rowsD_replicate] at e
  refine aCall_x <| xCall_of [] e ?_
  try simp (maxSteps := 2000000) only [go_sem, p_kSeq, ↓reduceIte, reduceCtorEq, Nat.reduceLT, Nat.reduceLeDiff, Nat.reduceEqDiff, Nat.reduceMul, Nat.reduceAdd, Nat.reduceSub, Int.reduceLE, Int.reduceLT, hr0, hr1]
  repeat refine cj ?_
  refine Round.fx (k5, y19_8, IntKind.i64.wrap (x56_5 + 1)) h (Nat.lt_succ_self k5) ?_
  exact fxs
  try simp (maxSteps := 2000000) only [go_sem, p_kSeq, ↓reduceIte, reduceCtorEq, Nat.reduceLT, Nat.reduceLeDiff, Nat.reduceEqDiff, Nat.reduceMul, Nat.reduceAdd, Nat.reduceSub, Int.reduceLE, Int.reduceLT, hr0, hr1]
  repeat refine cj ?_
  refine Round.fx (k5, x8_5, IntKind.i64.wrap (x56_5 + 1)) h (Nat.lt_succ_self k5) ?_
  exact fxs
  try simp (maxSteps := 2000000) only [go_sem, p_kSeq, ↓reduceIte, reduceCtorEq, Nat.reduceLT, Nat.reduceLeDiff, Nat.reduceEqDiff, Nat.reduceMul, Nat.reduceAdd, Nat.reduceSub, Int.reduceLE, Int.reduceLT, hr0]
  repeat refine cj ?_
  obtain ⟨y19_8, hy19_8, h⟩ := bd h
  have e := slices_Insert_api_Pos.spec hy19_8
  try simp only [go_sem, List.map_set, rowsD_append, rowsD_cons, rowsD_nil, rowsD_set, rowsD_take, rowsD_drop, rowsD_replicate] at e
  refine aCall_x <| xCall_of [] e ?_
  try simp (maxSteps := 2000000) only [go_sem, p_kSeq, ↓reduceIte, reduceCtorEq, Nat.reduceLT, Nat.reduceLeDiff, Nat.reduceEqDiff, Nat.reduceMul, Nat.reduceAdd, Nat.reduceSub, Int.reduceLE, Int.reduceLT, hr0]
  repeat refine cj ?_
  refine Round.fx (k5, y19_8, IntKind.i64.wrap (x56_5 + 1)) h (Nat.lt_succ_self k5) ?_
  exact fxs
  obtain rfl := Option.some.inj h
  have h := q7
  try dsimp only at h
  refine wgo ?_
  repeat refine cj ?_
  refine kIf3 h (fun hb h => ?_) (fun hb h => ?_)
  obtain ⟨⟨hg18_11_0, hg18_11_1⟩, h⟩ := gd h
  have hr0 := fun z => rd_in api_Pos.D x8_5 (i := x11_7) z (by omega) (by omega)
  try simp (maxSteps := 2000000) only [go_sem, p_kSeq, ↓reduceIte, reduceCtorEq, Nat.reduceLT, Nat.reduceLeDiff, Nat.reduceEqDiff, Nat.reduceMul, Nat.reduceAdd, Nat.reduceSub, Int.reduceLE, Int.reduceLT, hr0]
  repeat refine cj ?_
  obtain ⟨y18_13, hy18_13, h⟩ := bd h
  have e := stock_order.spec hy18_13
  try simp only [go_sem, List.map_set, rowsD_append, rowsD_cons, rowsD_nil, rowsD_set, rowsD_take, rowsD_drop, rowsD_replicate] at e
  refine aCall_of e ?_
  try simp (maxSteps := 2000000) only [go_sem, p_kSeq, ↓reduceIte, reduceCtorEq, Nat.reduceLT, Nat.reduceLeDiff, Nat.reduceEqDiff, Nat.reduceMul, Nat.reduceAdd, Nat.reduceSub, Int.reduceLE, Int.reduceLT, hr0]
  repeat refine cj ?_
  refine kIf2 h (fun hb h => ?_) (fun hb h => ?_)
  try simp (maxSteps := 2000000) only [go_sem, p_kSeq, ↓reduceIte, reduceCtorEq, Nat.reduceLT, Nat.reduceLeDiff, Nat.reduceEqDiff, Nat.reduceMul, Nat.reduceAdd, Nat.reduceSub, Int.reduceLE, Int.reduceLT, hr0]
  repeat refine cj ?_
  obtain ⟨y19_8, hy19_8, h⟩ := bd h
  have e := slices_Insert_api_Pos.spec hy19_8
  try simp only [go_sem, List.map_set, rowsD_append, rowsD_cons, rowsD_nil, rowsD_set, rowsD_take, rowsD_drop, rowsD_replicate] at e
  refine aCall_x <| xCall_of [] e ?_
  try simp (maxSteps := 2000000) only [go_sem, p_kSeq, ↓reduceIte, reduceCtorEq, Nat.reduceLT, Nat.reduceLeDiff, Nat.reduceEqDiff, Nat.reduceMul, Nat.reduceAdd, Nat.reduceSub, Int.reduceLE, Int.reduceLT, hr0]
  repeat refine cj ?_
  refine Round.fx (k5, y19_8, IntKind.i64.wrap (x56_5 + 1)) h (Nat.lt_succ_self k5) ?_
  exact fxs
  try simp (maxSteps := 2000000) only [go_sem, p_kSeq, ↓reduceIte, reduceCtorEq, Nat.reduceLT, Nat.reduceLeDiff, Nat.reduceEqDiff, Nat.reduceMul, Nat.reduceAdd, Nat.reduceSub, Int.reduceLE, Int.reduceLT, hr0]
  repeat refine cj ?_
  refine Round.fx (k5, x8_5, IntKind.i64.wrap (x56_5 + 1)) h (Nat.lt_succ_self k5) ?_
  exact fxs
  refine wgo ?_
  repeat refine cj ?_
  obtain ⟨y19_8, hy19_8, h⟩ := bd h
  have e := slices_Insert_api_Pos.spec hy19_8
  try simp only [go_sem, List.map_set, rowsD_append, rowsD_cons, rowsD_nil, rowsD_set, rowsD_take, rowsD_drop, rowsD_replicate] at e
  refine aCall_x <| xCall_of [] e ?_
  refine wgo ?_
  repeat refine cj ?_
  refine Round.fx (k5, y19_8, IntKind.i64.wrap (x56_5 + 1)) h (Nat.lt_succ_self k5) ?_
  exact fxs
  obtain rfl := Option.some.inj h
  have h := q5
  try dsimp only at h
  obtain ⟨⟨hg21_2_0, hg21_2_1⟩, h⟩ := gd h
  refine wgo ?_
  repeat refine cj ?_
  obtain ⟨f10, h10, q10⟩ := bd h
  rw [aCode_loop]
  refine aLoop_fx (α := Nat × (List api_Pos) × Int) (fun p => (⟨173, [], [(0, .one (.l (rowsD api_Pos.D a0))), (1, .one (.l (rowsD api_Shift.D a1))), (4, .own 3 (rowsD api_Pos.D ([] : List api_Pos))), (5, .one (.v (.int .i64 0))), (7, .none), (8, .one (.l (rowsD api_Pos.D x8_5))), (10, .none), (11, .none), (12, .own 3 (rowsD api_Pos.D p.2.1)), (14, .none), (15, .none), (17, .none), (18, .none), (20, .none), (21, .none), (30, .one (.l (rowsD api_Shift.D a1))), (31, .one (.v (.int .i64 (a1.length : Int)))), (32, .one (.v (.int .i64 x32_1))), (54, .one (.l (rowsD api_Shift.D a1))), (55, .one (.v (.int .i64 (a1.length : Int)))), (56, .one (.v (.int .i64 x56_5))), (107, .one (.l (rowsD api_Pos.D x8_5))), (108, .one (.v (.int .i64 (x8_5.length : Int)))), (109, .one (.v (.int .i64 p.2.2))), (117, .none), (118, .none), (119, .none)]⟩ : S)) (fun p => stock_Post.l3 a1 (x8_5, x56_5) p.1 p.2.1 p.2.2 = some f10) (fun p => p.1) (FUEL, ([] : List api_Pos), 0) h10 ?_ ?_
  exact fxs
  rintro ⟨k10, x12_10, x109_10⟩ h
  simp only at h
  obtain _ | k10 := k10
  exact absurd h (by simp [stock_Post.l3])
  rw [stock_Post.l3] at h
  try dsimp only at h
  refine wgo ?_
  repeat refine cj ?_
  refine kIf2 h (fun hb h => ?_) (fun hb h => ?_)
  obtain ⟨⟨hg24_0_0, hg24_0_1⟩, h⟩ := gd h
  refine wgo ?_
  repeat refine cj ?_
  obtain ⟨y25_2, hy25_2, h⟩ := bd h
  refine aCall_of (wide_Of.spec hy25_2) ?_
  refine wgo ?_
  repeat refine cj ?_
  obtain ⟨s12, h12, q12⟩ := bd h
  rw [aCode_loop]
  refine aLoop_fx (α := Nat × (List Int) × Int) (fun p => (⟨173, [], [(0, .one (.l (rowsD api_Pos.D a0))), (1, .one (.l (rowsD api_Shift.D a1))), (4, .own 3 (rowsD api_Pos.D ([] : List api_Pos))), (5, .one (.v (.int .i64 0))), (7, .none), (8, .one (.l (rowsD api_Pos.D x8_5))), (10, .none), (11, .none), (12, .own 3 (rowsD api_Pos.D x12_10)), (14, .box [.d (.v (.int .i64 (rd x8_5 x109_10).Acc)), .d (.v (.int .i64 (rd x8_5 x109_10).Inst)), .d (.v (.int .i64 (rd x8_5 x109_10).Q))]), (15, .own 2 (rowsD wD p.2.1)), (17, .none), (18, .none), (20, .none), (21, .none), (30, .one (.l (rowsD api_Shift.D a1))), (31, .one (.v (.int .i64 (a1.length : Int)))), (32, .one (.v (.int .i64 x32_1))), (54, .one (.l (rowsD api_Shift.D a1))), (55, .one (.v (.int .i64 (a1.length : Int)))), (56, .one (.v (.int .i64 x56_5))), (107, .one (.l (rowsD api_Pos.D x8_5))), (108, .one (.v (.int .i64 (x8_5.length : Int)))), (109, .one (.v (.int .i64 x109_10))), (117, .one (.l (rowsD api_Shift.D a1))), (118, .one (.v (.int .i64 (a1.length : Int)))), (119, .one (.v (.int .i64 p.2.2)))]⟩ : S)) (fun p => stock_Post.l4 a1 (x8_5, x56_5) x109_10 p.1 p.2.1 p.2.2 = some s12) (fun p => p.1) (FUEL, [y25_2], 0) h12 ?_ ?_
  exact fxs
  rintro ⟨k12, x15_12, x119_12⟩ h
  simp only at h
  obtain _ | k12 := k12
  exact absurd h (by simp [stock_Post.l4])
  rw [stock_Post.l4] at h
  try dsimp only at h
  refine wgo ?_
  repeat refine cj ?_
  refine kIf2 h (fun hb h => ?_) (fun hb h => ?_)
  obtain ⟨⟨hg28_0_0, hg28_0_1⟩, h⟩ := gd h
  refine wgo ?_
  repeat refine cj ?_
  refine kIf2 h (fun hb h => ?_) (fun hb h => ?_)
  refine wgo ?_
  repeat refine cj ?_
  refine kIf2 h (fun hb h => ?_) (fun hb h => ?_)
  refine wgo ?_
  repeat refine cj ?_
  obtain ⟨y30_3, hy30_3, h⟩ := bd h
  refine aCall_of (wide_Of.spec hy30_3) ?_
  obtain ⟨hg30_5, h⟩ := gd h
  refine wgo ?_
  repeat refine cj ?_
  refine Round.fx (k12, x15_12 ++ ([y30_3]), IntKind.i64.wrap (x119_12 + 1)) h (Nat.lt_succ_self k12) ?_
  exact fxs
  refine wgo ?_
  repeat refine cj ?_
  refine Round.fx (k12, x15_12, IntKind.i64.wrap (x119_12 + 1)) h (Nat.lt_succ_self k12) ?_
  exact fxs
  refine wgo ?_
  repeat refine cj ?_
  refine Round.fx (k12, x15_12, IntKind.i64.wrap (x119_12 + 1)) h (Nat.lt_succ_self k12) ?_
  exact fxs
  obtain rfl := Option.some.inj h
  have h := q12
  try dsimp only at h
  refine wgo ?_
  repeat refine cj ?_
  obtain ⟨y32_1, hy32_1, h⟩ := bd h
  refine aCall_of (wide_Sum.spec hy32_1) ?_
  refine wgo ?_
  repeat refine cj ?_
  obtain ⟨y33_1, hy33_1, h⟩ := bd h
  refine aCall_of (wide_Int.spec hy33_1) ?_
  refine wgo ?_
  repeat refine cj ?_
  refine kIf3 h (fun hb h => ?_) (fun hb h => ?_)
  refine wgo ?_
  repeat refine cj ?_
  obtain ⟨y34_4, hy34_4, h⟩ := bd h
  refine aCall_of (stock_Quantity.spec hy34_4) ?_
  refine wgo ?_
  repeat refine cj ?_
  refine kIf2 h (fun hb h => ?_) (fun hb h => ?_)
  obtain rfl := Option.some.inj h
  have h := q10
  simp only [Flow.go_ret, Flow.goL_ret] at h
  obtain rfl := Option.some.inj h
  exact fin
  refine wgo ?_
  repeat refine cj ?_
  refine kIf2 h (fun hb h => ?_) (fun hb h => ?_)
  obtain ⟨hg37_8, h⟩ := gd h
  refine wgo ?_
  repeat refine cj ?_
  refine Round.fx (k10, x12_10 ++ ([({ (rd x8_5 x109_10) with Q := y33_1.1 } : api_Pos)]), IntKind.i64.wrap (x109_10 + 1)) h (Nat.lt_succ_self k10) ?_
  exact fxs
  refine wgo ?_
  repeat refine cj ?_
  refine Round.fx (k10, x12_10, IntKind.i64.wrap (x109_10 + 1)) h (Nat.lt_succ_self k10) ?_
  exact fxs
  obtain rfl := Option.some.inj h
  have h := q10
  simp only [Flow.go_ret, Flow.goL_ret] at h
  obtain rfl := Option.some.inj h
  exact fin
  obtain rfl := Option.some.inj h
  have h := q10
  simp only [Flow.go_out, Flow.goL_out] at h
  try dsimp only at h
  refine wgo ?_
  repeat refine cj ?_
  obtain ⟨y39_1, hy39_1, h⟩ := bd h
  refine aCall_of (slices_Clip_api_Pos.spec hy39_1) ?_
  obtain rfl := Option.some.inj h
  exact fin
  obtain rfl := Option.some.inj h
  exact fin
end Go.Ax

/- The walk of novationlaw13_known, printed by gen.py. -/
set_option linter.unusedSimpArgs false
set_option linter.unusedVariables false
namespace Go.Ax
open Go Go.Proofs
set_option maxRecDepth 100000
set_option maxHeartbeats 4000000
theorem novationlaw13_known.spec {r : Bool} (h : novationlaw13_known.f = some r) : FSpec Try.prog 46 [] [.one (.d (.v (.bool r)))] := by
  unfold novationlaw13_known.f at h
  refine fspec_data mixed Try.func46 rfl (by decide) [0, 1, 2, 3, 4, 6] (rs := [.tmp 0]) rfl (by decide) (n := 76) rfl (by simp) ?_
  refine wgo ?_
  repeat refine cj ?_
  obtain ⟨y1_3, hy1_3, h⟩ := bd h
  have e := stock_Post.spec hy1_3
  try simp only [go_sem, List.map_set, rowsD_append, rowsD_cons, rowsD_nil, rowsD_set, rowsD_take, rowsD_drop, rowsD_replicate] at e
  refine aCall_of e ?_
  refine wgo ?_
  repeat refine cj ?_
  obtain ⟨y2_2, hy2_2, h⟩ := bd h
  refine aCall_of (stock_All.spec hy2_2) ?_
  refine wgo ?_
  repeat refine cj ?_
  obtain ⟨y2_3, hy2_3, h⟩ := bd h
  refine aCall_of (stock_Post.spec hy2_3) ?_
  refine wgo ?_
  repeat refine cj ?_
  obtain ⟨y3_3, hy3_3, h⟩ := bd h
  have e := stock_Post.spec hy3_3
  try simp only [go_sem, List.map_set, rowsD_append, rowsD_cons, rowsD_nil, rowsD_set, rowsD_take, rowsD_drop, rowsD_replicate] at e
  refine aCall_of e ?_
  refine wgo ?_
  repeat refine cj ?_
  refine kIf2 h (fun hb h => ?_) (fun hb h => ?_)
  refine wgo ?_
  repeat refine cj ?_
  obtain ⟨y4_7, hy4_7, h⟩ := bd h
  have e := novationhelp_Stock.spec hy4_7
  try simp only [go_sem, List.map_set, rowsD_append, rowsD_cons, rowsD_nil, rowsD_set, rowsD_take, rowsD_drop, rowsD_replicate] at e
  refine aCall_of e ?_
  refine wgo ?_
  repeat refine cj ?_
  refine kIf2 h (fun hb h => ?_) (fun hb h => ?_)
  refine wgo ?_
  repeat refine cj ?_
  refine kIf2 h (fun hb h => ?_) (fun hb h => ?_)
  refine wgo ?_
  repeat refine cj ?_
  obtain ⟨y4_15, hy4_15, h⟩ := bd h
  refine aCall_of (stock_Get.spec hy4_15) ?_
  refine wgo ?_
  repeat refine cj ?_
  refine kIf2 h (fun hb h => ?_) (fun hb h => ?_)
  refine wgo ?_
  repeat refine cj ?_
  obtain ⟨y4_20, hy4_20, h⟩ := bd h
  refine aCall_of (stock_Get.spec hy4_20) ?_
  refine wgo ?_
  repeat refine cj ?_
  refine kIf2 h (fun hb h => ?_) (fun hb h => ?_)
  refine wgo ?_
  repeat refine cj ?_
  refine kIf2 h (fun hb h => ?_) (fun hb h => ?_)
  refine wgo ?_
  repeat refine cj ?_
  obtain ⟨y4_29, hy4_29, h⟩ := bd h
  refine aCall_of (stock_Right.spec hy4_29) ?_
  refine wgo ?_
  repeat refine cj ?_
  refine kIf2 h (fun hb h => ?_) (fun hb h => ?_)
  refine wgo ?_
  repeat refine cj ?_
  obtain ⟨y4_33, hy4_33, h⟩ := bd h
  refine aCall_of (stock_Flat.spec hy4_33) ?_
  refine wgo ?_
  repeat refine cj ?_
  refine kIf2 h (fun hb h => ?_) (fun hb h => ?_)
  refine wgo ?_
  repeat refine cj ?_
  obtain ⟨y4_37, hy4_37, h⟩ := bd h
  refine aCall_of (stock_Sum.spec hy4_37) ?_
  refine wgo ?_
  repeat refine cj ?_
  refine kIf2 h (fun hb h => ?_) (fun hb h => ?_)
  refine wgo ?_
  repeat refine cj ?_
  obtain ⟨y4_43, hy4_43, h⟩ := bd h
  refine aCall_of (stock_Of.spec hy4_43) ?_
  refine wgo ?_
  repeat refine cj ?_
  obtain ⟨y4_46, hy4_46, h⟩ := bd h
  have e := novationhelp_Legs.spec hy4_46
  try simp only [go_sem, List.map_set, rowsD_append, rowsD_cons, rowsD_nil, rowsD_set, rowsD_take, rowsD_drop, rowsD_replicate] at e
  refine aCall_of e ?_
  obtain rfl := Option.some.inj h
  exact fin
  obtain rfl := Option.some.inj h
  exact fin
  obtain rfl := Option.some.inj h
  exact fin
  obtain rfl := Option.some.inj h
  exact fin
  obtain rfl := Option.some.inj h
  exact fin
  obtain rfl := Option.some.inj h
  exact fin
  obtain rfl := Option.some.inj h
  exact fin
  obtain rfl := Option.some.inj h
  exact fin
  obtain rfl := Option.some.inj h
  exact fin
  obtain rfl := Option.some.inj h
  exact fin
end Go.Ax

/- The walk of novationref1_Quantity, printed by gen.py. -/
set_option linter.unusedSimpArgs false
set_option linter.unusedVariables false
namespace Go.Ax
open Go Go.Proofs
set_option maxRecDepth 100000
set_option maxHeartbeats 4000000
theorem novationref1_Quantity.spec {a0 : Int} {r : Int × Bool} (h : novationref1_Quantity.f a0 = some r) : FSpec Try.prog 150 [(true, bigDs a0)] [.one (.d (.v (.int .i64 r.1))), .one (.d (.v (.bool r.2)))] := by
  unfold novationref1_Quantity.f at h
  refine fspec_data mixed Try.func150 rfl (by decide) [0, 1, 2, 3, 4, 5] (rs := [.tmp 2, .tmp 3]) rfl (by decide) (n := 18) rfl (by simp) ?_
  refine wgo ?_
  repeat refine cj ?_
  obtain ⟨y1_1, hy1_1, h⟩ := bd h
  refine aCall_of (novationref1_Int.spec hy1_1) ?_
  refine wgo ?_
  repeat refine cj ?_
  refine kIf3 h (fun hb h => ?_) (fun hb h => ?_)
  refine wgo ?_
  repeat refine cj ?_
  refine kIf2 h (fun hb h => ?_) (fun hb h => ?_)
  obtain rfl := Option.some.inj h
  exact fin
  obtain rfl := Option.some.inj h
  exact fin
  obtain rfl := Option.some.inj h
  exact fin
end Go.Ax
