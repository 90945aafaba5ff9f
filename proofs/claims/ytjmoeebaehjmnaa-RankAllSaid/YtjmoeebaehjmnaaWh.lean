/- The walk of roll_Status, printed by gen.py. -/
import Derived.Test.YtjmoeebaehjmnaaGa
import Derived.Test.YtjmoeebaehjmnaaGs
import Derived.Test.YtjmoeebaehjmnaaWg
import Derived.Test.YtjmoeebaehjmnaaWf
import Derived.Test.YtjmoeebaehjmnaaWb
set_option linter.unusedVariables false
set_option linter.unusedSimpArgs false
set_option linter.unusedSimpArgs false
set_option linter.unusedVariables false
namespace Go.Ax
open Go Go.Proofs
set_option maxRecDepth 100000
set_option maxHeartbeats 4000000
theorem roll_Status.spec {a0 : List api_Member} {a1 : Int} {r : Int} (h : roll_Status.f a0 a1 = some r) : FSpec Try.prog 49 [(false, [.l (rowsD api_Member.D a0)]), (false, [.v (.int .i64 a1)])] [.one (.d (.v (.int .i64 r)))] := by
  unfold roll_Status.f at h
  refine fspec_data mixed Try.func49 rfl (by decide) [0, 1, 4, 6, 10, 11, 12] (rs := [.tmp 4]) rfl (by decide) (n := 23) rfl (by simp) ?_
  refine wgo ?_
  repeat refine cj ?_
  obtain ⟨y1_1, hy1_1, h⟩ := bd h
  refine aCall_of (roll_Members.spec hy1_1) ?_
  refine wgo ?_
  repeat refine cj ?_
  refine kIf2 h (fun hb h => ?_) (fun hb h => ?_)
  obtain rfl := Option.some.inj h
  exact fin
  refine wgo ?_
  repeat refine cj ?_
  obtain ⟨f1, h1, q1⟩ := bd h
  rw [aCode_loop]
  refine aLoop_fx (α := Nat × Int) (fun p => (⟨23, [], [(0, .one (.l (rowsD api_Member.D a0))), (1, .one (.v (.int .i64 a1))), (4, .one (.v (.int .i64 0))), (6, .none), (10, .one (.l (rowsD api_Member.D a0))), (11, .one (.v (.int .i64 (a0.length : Int)))), (12, .one (.v (.int .i64 p.2)))]⟩ : S)) (fun p => roll_Status.l0 a0 a1 p.1 p.2 = some f1) (fun p => p.1) (FUEL, 0) h1 ?_ ?_
  exact fxs
  rintro ⟨k1, x12_1⟩ h
  simp only at h
  obtain _ | k1 := k1
  exact absurd h (by simp [roll_Status.l0])
  rw [roll_Status.l0] at h
  refine wgo ?_
  repeat refine cj ?_
  refine kIf2 h (fun hb h => ?_) (fun hb h => ?_)
  obtain ⟨⟨hg5_0_0, hg5_0_1⟩, h⟩ := gd h
  refine wgo ?_
  repeat refine cj ?_
  refine kIf2 h (fun hb h => ?_) (fun hb h => ?_)
  obtain rfl := Option.some.inj h
  have h := q1
  simp only [Flow.go_ret, Flow.goL_ret] at h
  obtain rfl := Option.some.inj h
  exact fin
  refine wgo ?_
  repeat refine cj ?_
  refine Round.fx (k1, IntKind.i64.wrap (x12_1 + 1)) h (Nat.lt_succ_self k1) ?_
  exact fxs
  obtain rfl := Option.some.inj h
  have h := q1
  simp only [Flow.go_out, Flow.goL_out] at h
  try dsimp only at h
  obtain rfl := Option.some.inj h
  exact fin
end Go.Ax

/- The walk of roll_Right, printed by gen.py. -/
set_option linter.unusedSimpArgs false
set_option linter.unusedVariables false
namespace Go.Ax
open Go Go.Proofs
set_option maxRecDepth 100000
set_option maxHeartbeats 4000000
theorem roll_Right.spec {a0 : List api_Member} {a1 : List api_Acc} {r : Bool} (h : roll_Right.f a0 a1 = some r) : FSpec Try.prog 70 [(false, [.l (rowsD api_Member.D a0)]), (false, [.l (rowsD api_Acc.D a1)])] [.one (.d (.v (.bool r)))] := by
  unfold roll_Right.f at h
  refine fspec_data mixed Try.func70 rfl (by decide) [0, 1, 4, 6, 15, 16, 17] (rs := [.tmp 4]) rfl (by decide) (n := 27) rfl (by simp) ?_
  refine wgo ?_
  repeat refine cj ?_
  obtain ⟨y1_1, hy1_1, h⟩ := bd h
  refine aCall_of (roll_Members.spec hy1_1) ?_
  refine wgo ?_
  repeat refine cj ?_
  refine kIf3 h (fun hb h => ?_) (fun hb h => ?_)
  refine wgo ?_
  repeat refine cj ?_
  obtain ⟨y1_5, hy1_5, h⟩ := bd h
  refine aCall_of (roll_Accs.spec hy1_5) ?_
  refine wgo ?_
  repeat refine cj ?_
  refine kIf2 h (fun hb h => ?_) (fun hb h => ?_)
  obtain rfl := Option.some.inj h
  exact fin
  refine wgo ?_
  repeat refine cj ?_
  obtain ⟨f1, h1, q1⟩ := bd h
  rw [aCode_loop]
  refine aLoop_fx (α := Nat × Int) (fun p => (⟨27, [], [(0, .one (.l (rowsD api_Member.D a0))), (1, .one (.l (rowsD api_Acc.D a1))), (4, .one (.v (.bool false))), (6, .none), (15, .one (.l (rowsD api_Acc.D a1))), (16, .one (.v (.int .i64 (a1.length : Int)))), (17, .one (.v (.int .i64 p.2)))]⟩ : S)) (fun p => roll_Right.l0 a0 a1 p.1 p.2 = some f1) (fun p => p.1) (FUEL, 0) h1 ?_ ?_
  exact fxs
  rintro ⟨k1, x17_1⟩ h
  simp only at h
  obtain _ | k1 := k1
  exact absurd h (by simp [roll_Right.l0])
  rw [roll_Right.l0] at h
  refine wgo ?_
  repeat refine cj ?_
  refine kIf2 h (fun hb h => ?_) (fun hb h => ?_)
  obtain ⟨⟨hg5_0_0, hg5_0_1⟩, h⟩ := gd h
  refine wgo ?_
  repeat refine cj ?_
  obtain ⟨y6_3, hy6_3, h⟩ := bd h
  refine aCall_of (roll_Status.spec hy6_3) ?_
  refine wgo ?_
  repeat refine cj ?_
  refine kIf2 h (fun hb h => ?_) (fun hb h => ?_)
  obtain rfl := Option.some.inj h
  have h := q1
  simp only [Flow.go_ret, Flow.goL_ret] at h
  obtain rfl := Option.some.inj h
  exact fin
  refine wgo ?_
  repeat refine cj ?_
  refine Round.fx (k1, IntKind.i64.wrap (x17_1 + 1)) h (Nat.lt_succ_self k1) ?_
  exact fxs
  obtain rfl := Option.some.inj h
  have h := q1
  simp only [Flow.go_out, Flow.goL_out] at h
  try dsimp only at h
  obtain rfl := Option.some.inj h
  exact fin
  obtain rfl := Option.some.inj h
  exact fin
end Go.Ax

/- The walk of mark_Price, printed by gen.py. -/
set_option linter.unusedSimpArgs false
set_option linter.unusedVariables false
namespace Go.Ax
open Go Go.Proofs
set_option maxRecDepth 100000
set_option maxHeartbeats 4000000
theorem mark_Price.spec {a0 : Int} {r : Bool} (h : mark_Price.f a0 = some r) : FSpec Try.prog 79 [(false, [.v (.int .i64 a0)])] [.one (.d (.v (.bool r)))] := by
  unfold mark_Price.f at h
  refine fspec_data mixed Try.func79 rfl (by decide) [0, 2] (rs := [.tmp 2]) rfl (by decide) (n := 9) rfl (by simp) ?_
  refine wgo ?_
  repeat refine cj ?_
  refine kIf2 h (fun hb h => ?_) (fun hb h => ?_)
  obtain rfl := Option.some.inj h
  exact fin
  obtain rfl := Option.some.inj h
  exact fin
end Go.Ax

/- The walk of book_Right_1, printed by gen.py. -/
set_option linter.unusedSimpArgs false
set_option linter.unusedVariables false
namespace Go.Ax
open Go Go.Proofs
set_option maxRecDepth 100000
set_option maxHeartbeats 4000000
theorem book_Right_1.spec {a0 : Int} {r : Bool} (h : book_Right_1.f a0 = some r) : FSpec Try.prog 78 [(false, [.v (.int .i64 a0)])] [.one (.d (.v (.bool r)))] := by
  unfold book_Right_1.f at h
  refine fspec_data mixed Try.func78 rfl (by decide) [0, 2] (rs := [.tmp 2]) rfl (by decide) (n := 6) rfl (by simp) ?_
  refine wgo ?_
  repeat refine cj ?_
  obtain ⟨y1_1, hy1_1, h⟩ := bd h
  refine aCall_of (mark_Price.spec hy1_1) ?_
  obtain rfl := Option.some.inj h
  exact fin
end Go.Ax

/- The walk of slices_IndexFunc_int64_book_Right_1, printed by gen.py. -/
set_option linter.unusedSimpArgs false
set_option linter.unusedVariables false
namespace Go.Ax
open Go Go.Proofs
set_option maxRecDepth 100000
set_option maxHeartbeats 4000000
theorem slices_IndexFunc_int64_book_Right_1.spec {a0 : List Int} {r : Int} (h : slices_IndexFunc_int64_book_Right_1.f a0 = some r) : FSpec Try.prog 115 [(false, [.l (rowsD i64D a0)]), (false, [.v (.func (.func 78) #[] #[])])] [.one (.d (.v (.int .i64 r)))] := by
  unfold slices_IndexFunc_int64_book_Right_1.f at h
  refine fspec_data mixed Try.func115 rfl (by decide) [0, 1, 4, 5, 7, 8] (rs := [.tmp 4]) rfl (by decide) (n := 19) rfl (by simp) ?_
  refine wgo ?_
  repeat refine cj ?_
  obtain ⟨f0, h0, q0⟩ := bd h
  rw [aCode_loop]
  refine aLoop_fx (α := Nat × Int) (fun p => (⟨19, [], [(0, .one (.l (rowsD i64D a0))), (1, .one (.v (.func (.func 78) #[] #[]))), (4, .one (.v (.int .i64 0))), (5, .none), (7, .one (.v (.int .i64 (a0.length : Int)))), (8, .one (.v (.int .i64 p.2)))]⟩ : S)) (fun p => slices_IndexFunc_int64_book_Right_1.l0 a0 p.1 p.2 = some f0) (fun p => p.1) (FUEL, 0) h0 ?_ ?_
  exact fxs
  rintro ⟨k0, x8_0⟩ h
  simp only at h
  obtain _ | k0 := k0
  exact absurd h (by simp [slices_IndexFunc_int64_book_Right_1.l0])
  rw [slices_IndexFunc_int64_book_Right_1.l0] at h
  refine wgo ?_
  repeat refine cj ?_
  refine kIf2 h (fun hb h => ?_) (fun hb h => ?_)
  obtain ⟨⟨hg4_3_0, hg4_3_1⟩, h⟩ := gd h
  refine wgo ?_
  repeat refine cj ?_
  obtain ⟨y4_5, hy4_5, h⟩ := bd h
  refine aCall_of (book_Right_1.spec hy4_5) ?_
  refine wgo ?_
  repeat refine cj ?_
  refine kIf2 h (fun hb h => ?_) (fun hb h => ?_)
  obtain rfl := Option.some.inj h
  have h := q0
  simp only [Flow.go_ret, Flow.goL_ret] at h
  obtain rfl := Option.some.inj h
  exact fin
  refine wgo ?_
  repeat refine cj ?_
  refine Round.fx (k0, IntKind.i64.wrap (x8_0 + 1)) h (Nat.lt_succ_self k0) ?_
  exact fxs
  obtain rfl := Option.some.inj h
  have h := q0
  simp only [Flow.go_out, Flow.goL_out] at h
  try dsimp only at h
  obtain rfl := Option.some.inj h
  exact fin
end Go.Ax

/- The walk of slices_ContainsFunc_int64_book_Right_1, printed by gen.py. -/
set_option linter.unusedSimpArgs false
set_option linter.unusedVariables false
namespace Go.Ax
open Go Go.Proofs
set_option maxRecDepth 100000
set_option maxHeartbeats 4000000
theorem slices_ContainsFunc_int64_book_Right_1.spec {a0 : List Int} {r : Bool} (h : slices_ContainsFunc_int64_book_Right_1.f a0 = some r) : FSpec Try.prog 77 [(false, [.l (rowsD i64D a0)]), (false, [.v (.func (.func 78) #[] #[])])] [.one (.d (.v (.bool r)))] := by
  unfold slices_ContainsFunc_int64_book_Right_1.f at h
  refine fspec_data mixed Try.func77 rfl (by decide) [0, 1, 4] (rs := [.tmp 4]) rfl (by decide) (n := 9) rfl (by simp) ?_
  refine wgo ?_
  repeat refine cj ?_
  obtain ⟨y1_2, hy1_2, h⟩ := bd h
  refine aCall_of (slices_IndexFunc_int64_book_Right_1.spec hy1_2) ?_
  obtain rfl := Option.some.inj h
  exact fin
end Go.Ax

/- The walk of stock_key, printed by gen.py. -/
set_option linter.unusedSimpArgs false
set_option linter.unusedVariables false
namespace Go.Ax
open Go Go.Proofs
set_option maxRecDepth 100000
set_option maxHeartbeats 4000000
theorem stock_key.spec {a0 : Int} {a1 : Int} {r : Bool} (h : stock_key.f a0 a1 = some r) : FSpec Try.prog 124 [(false, [.v (.int .i64 a0)]), (false, [.v (.int .i64 a1)])] [.one (.d (.v (.bool r)))] := by
  unfold stock_key.f at h
  refine fspec_data mixed Try.func124 rfl (by decide) [0, 1, 4] (rs := [.tmp 4]) rfl (by decide) (n := 19) rfl (by simp) ?_
  refine wgo ?_
  repeat refine cj ?_
  refine kIf2 h (fun hb h => ?_) (fun hb h => ?_)
  refine wgo ?_
  repeat refine cj ?_
  refine kIf2 h (fun hb h => ?_) (fun hb h => ?_)
  refine wgo ?_
  repeat refine cj ?_
  refine kIf2 h (fun hb h => ?_) (fun hb h => ?_)
  obtain rfl := Option.some.inj h
  exact fin
  obtain rfl := Option.some.inj h
  exact fin
  obtain rfl := Option.some.inj h
  exact fin
  obtain rfl := Option.some.inj h
  exact fin
end Go.Ax

/- The walk of stock_order, printed by gen.py. -/
set_option linter.unusedSimpArgs false
set_option linter.unusedVariables false
namespace Go.Ax
open Go Go.Proofs
set_option maxRecDepth 100000
set_option maxHeartbeats 4000000
theorem stock_order.spec {a0 : Int} {a1 : Int} {a2 : api_Pos} {r : Int} (h : stock_order.f a0 a1 a2 = some r) : FSpec Try.prog 125 [(false, [.v (.int .i64 a0)]), (false, [.v (.int .i64 a1)]), (true, api_Pos.D a2)] [.one (.d (.v (.int .i64 r)))] := by
  unfold stock_order.f at h
  refine fspec_data mixed Try.func125 rfl (by decide) [0, 1, 2, 5, 6] (rs := [.tmp 6]) rfl (by decide) (n := 19) rfl (by simp) ?_
  refine wgo ?_
  repeat refine cj ?_
  refine kIf2 h (fun hb h => ?_) (fun hb h => ?_)
  obtain rfl := Option.some.inj h
  exact fin
  obtain rfl := Option.some.inj h
  exact fin
end Go.Ax

/- The walk of stock_Right, printed by gen.py. -/
set_option linter.unusedSimpArgs false
set_option linter.unusedVariables false
namespace Go.Ax
open Go Go.Proofs
set_option maxRecDepth 100000
set_option maxHeartbeats 4000000
theorem stock_Right.spec {a0 : List api_Pos} {r : Bool} (h : stock_Right.f a0 = some r) : FSpec Try.prog 113 [(false, [.l (rowsD api_Pos.D a0)])] [.one (.d (.v (.bool r)))] := by
  unfold stock_Right.f at h
  refine fspec_data mixed Try.func113 rfl (by decide) [0, 2, 3, 4, 5, 6, 7] (rs := [.tmp 2]) rfl (by decide) (n := 47) rfl (by simp) ?_
  refine wgo ?_
  repeat refine cj ?_
  obtain ⟨f0, h0, q0⟩ := bd h
  rw [aCode_loop]
  refine aLoop_fx (α := Nat × Int) (fun p => (⟨47, [], [(0, .one (.l (rowsD api_Pos.D a0))), (2, .one (.v (.bool false))), (3, .none), (4, .none), (5, .one (.l (rowsD api_Pos.D a0))), (6, .one (.v (.int .i64 (a0.length : Int)))), (7, .one (.v (.int .i64 p.2)))]⟩ : S)) (fun p => stock_Right.l0 a0 p.1 p.2 = some f0) (fun p => p.1) (FUEL, 0) h0 ?_ ?_
  exact fxs
  rintro ⟨k0, x7_0⟩ h
  simp only at h
  obtain _ | k0 := k0
  exact absurd h (by simp [stock_Right.l0])
  rw [stock_Right.l0] at h
  refine wgo ?_
  repeat refine cj ?_
  refine kIf2 h (fun hb h => ?_) (fun hb h => ?_)
  obtain ⟨⟨hg3_1_0, hg3_1_1⟩, h⟩ := gd h
  refine wgo ?_
  repeat refine cj ?_
  obtain ⟨y4_4, hy4_4, h⟩ := bd h
  refine aCall_of (stock_key.spec hy4_4) ?_
  refine wgo ?_
  repeat refine cj ?_
  refine kIf3 h (fun hb h => ?_) (fun hb h => ?_)
  refine wgo ?_
  repeat refine cj ?_
  refine kIf3 h (fun hb h => ?_) (fun hb h => ?_)
  refine wgo ?_
  repeat refine cj ?_
  obtain ⟨y4_14, hy4_14, h⟩ := bd h
  refine aCall_of (stock_Quantity.spec hy4_14) ?_
  refine wgo ?_
  repeat refine cj ?_
  refine kIf3 h (fun hb h => ?_) (fun hb h => ?_)
  refine wgo ?_
  repeat refine cj ?_
  refine kIf2 h (fun hb h => ?_) (fun hb h => ?_)
  obtain ⟨⟨hg4_28_0, hg4_28_1⟩, h⟩ := gd h
  refine wgo ?_
  repeat refine cj ?_
  obtain ⟨y4_30, hy4_30, h⟩ := bd h
  have e := stock_order.spec hy4_30
  simp only [go_sem, List.map_set, rowsD_append, rowsD_cons, rowsD_nil, rowsD_set, rowsD_take, rowsD_drop, rowsD_replicate] at e
  refine aCall_of e ?_
  refine wgo ?_
  repeat refine cj ?_
  refine kIf2 h (fun hb h => ?_) (fun hb h => ?_)
  obtain rfl := Option.some.inj h
  have h := q0
  simp only [Flow.go_ret, Flow.goL_ret] at h
  obtain rfl := Option.some.inj h
  exact fin
  refine wgo ?_
  repeat refine cj ?_
  refine Round.fx (k0, IntKind.i64.wrap (x7_0 + 1)) h (Nat.lt_succ_self k0) ?_
  exact fxs
  refine wgo ?_
  repeat refine cj ?_
  refine Round.fx (k0, IntKind.i64.wrap (x7_0 + 1)) h (Nat.lt_succ_self k0) ?_
  exact fxs
  obtain rfl := Option.some.inj h
  have h := q0
  simp only [Flow.go_ret, Flow.goL_ret] at h
  obtain rfl := Option.some.inj h
  exact fin
  obtain rfl := Option.some.inj h
  have h := q0
  simp only [Flow.go_ret, Flow.goL_ret] at h
  obtain rfl := Option.some.inj h
  exact fin
  obtain rfl := Option.some.inj h
  have h := q0
  simp only [Flow.go_ret, Flow.goL_ret] at h
  obtain rfl := Option.some.inj h
  exact fin
  obtain rfl := Option.some.inj h
  have h := q0
  simp only [Flow.go_out, Flow.goL_out] at h
  try dsimp only at h
  obtain rfl := Option.some.inj h
  exact fin
end Go.Ax

/- The walk of stock_Sum, printed by gen.py. -/
set_option linter.unusedSimpArgs false
set_option linter.unusedVariables false
namespace Go.Ax
open Go Go.Proofs
set_option maxRecDepth 100000
set_option maxHeartbeats 4000000
theorem stock_Sum.spec {a0 : List api_Pos} {a1 : Int} {r : Int} (h : stock_Sum.f a0 a1 = some r) : FSpec Try.prog 112 [(false, [.l (rowsD api_Pos.D a0)]), (false, [.v (.int .i64 a1)])] [.agg (wD r)] := by
  unfold stock_Sum.f at h
  refine fspec_data mixed Try.func112 rfl (by decide) [0, 1, 4, 5, 7, 8, 14, 15, 16] (rs := [.cell 4 122]) rfl (by decide) (n := 37) rfl (by simp) ?_
  refine wgo ?_
  repeat refine cj ?_
  obtain ⟨y1_1, hy1_1, h⟩ := bd h
  refine aCall_of (stock_Right.spec hy1_1) ?_
  refine wgo ?_
  repeat refine cj ?_
  refine kIf2 h (fun hb h => ?_) (fun hb h => ?_)
  obtain rfl := Option.some.inj h
  exact fin
  refine wgo ?_
  repeat refine cj ?_
  obtain ⟨s1, h1, q1⟩ := bd h
  rw [aCode_loop]
  refine aLoop_fx (α := Nat × (List Int) × Int) (fun p => (⟨37, [], [(0, .one (.l (rowsD api_Pos.D a0))), (1, .one (.v (.int .i64 a1))), (4, .box [.d (.v (.int .i64 (wHi 0))), .d (.v (.int .u64 (wLo 0)))]), (5, .own 2 (rowsD wD p.2.1)), (7, .none), (8, .none), (14, .one (.l (rowsD api_Pos.D a0))), (15, .one (.v (.int .i64 (a0.length : Int)))), (16, .one (.v (.int .i64 p.2.2)))]⟩ : S)) (fun p => stock_Sum.l0 a0 a1 p.1 p.2.1 p.2.2 = some s1) (fun p => p.1) (FUEL, ([] : List Int), 0) h1 ?_ ?_
  exact fxs
  rintro ⟨k1, x5_1, x16_1⟩ h
  simp only at h
  obtain _ | k1 := k1
  exact absurd h (by simp [stock_Sum.l0])
  rw [stock_Sum.l0] at h
  refine wgo ?_
  repeat refine cj ?_
  refine kIf2 h (fun hb h => ?_) (fun hb h => ?_)
  obtain ⟨⟨hg6_0_0, hg6_0_1⟩, h⟩ := gd h
  refine wgo ?_
  repeat refine cj ?_
  refine kIf2 h (fun hb h => ?_) (fun hb h => ?_)
  refine wgo ?_
  repeat refine cj ?_
  obtain ⟨y8_3, hy8_3, h⟩ := bd h
  refine aCall_of (wide_Of.spec hy8_3) ?_
  obtain ⟨hg8_5, h⟩ := gd h
  refine wgo ?_
  repeat refine cj ?_
  refine Round.fx (k1, x5_1 ++ ([y8_3]), IntKind.i64.wrap (x16_1 + 1)) h (Nat.lt_succ_self k1) ?_
  exact fxs
  refine wgo ?_
  repeat refine cj ?_
  refine Round.fx (k1, x5_1, IntKind.i64.wrap (x16_1 + 1)) h (Nat.lt_succ_self k1) ?_
  exact fxs
  obtain rfl := Option.some.inj h
  have h := q1
  try dsimp only at h
  refine wgo ?_
  repeat refine cj ?_
  obtain ⟨y10_1, hy10_1, h⟩ := bd h
  refine aCall_of (wide_Sum.spec hy10_1) ?_
  obtain rfl := Option.some.inj h
  exact fin
end Go.Ax

/- The walk of stock_Flat, printed by gen.py. -/
set_option linter.unusedSimpArgs false
set_option linter.unusedVariables false
namespace Go.Ax
open Go Go.Proofs
set_option maxRecDepth 100000
set_option maxHeartbeats 4000000
theorem stock_Flat.spec {a0 : List api_Pos} {r : Bool} (h : stock_Flat.f a0 = some r) : FSpec Try.prog 74 [(false, [.l (rowsD api_Pos.D a0)])] [.one (.d (.v (.bool r)))] := by
  unfold stock_Flat.f at h
  refine fspec_data mixed Try.func74 rfl (by decide) [0, 2, 3, 4] (rs := [.tmp 2]) rfl (by decide) (n := 15) rfl (by simp) ?_
  refine wgo ?_
  repeat refine cj ?_
  obtain ⟨f0, h0, q0⟩ := bd h
  rw [aCode_loop]
  refine aLoop_fx (α := Nat × Int) (fun p => (⟨15, [], [(0, .one (.l (rowsD api_Pos.D a0))), (2, .one (.v (.bool false))), (3, .none), (4, .one (.v (.int .i64 p.2)))]⟩ : S)) (fun p => stock_Flat.l0 a0 p.1 p.2 = some f0) (fun p => p.1) (FUEL, 0) h0 ?_ ?_
  exact fxs
  rintro ⟨k0, x4_0⟩ h
  simp only at h
  obtain _ | k0 := k0
  exact absurd h (by simp [stock_Flat.l0])
  rw [stock_Flat.l0] at h
  refine wgo ?_
  repeat refine cj ?_
  refine kIf2 h (fun hb h => ?_) (fun hb h => ?_)
  refine wgo ?_
  repeat refine cj ?_
  obtain ⟨y4_2, hy4_2, h⟩ := bd h
  refine aCall_of (stock_Sum.spec hy4_2) ?_
  refine wgo ?_
  repeat refine cj ?_
  obtain ⟨y4_3, hy4_3, h⟩ := bd h
  refine aCall_of (wide_Sign.spec hy4_3) ?_
  refine wgo ?_
  repeat refine cj ?_
  refine kIf2 h (fun hb h => ?_) (fun hb h => ?_)
  obtain rfl := Option.some.inj h
  have h := q0
  simp only [Flow.go_ret, Flow.goL_ret] at h
  obtain rfl := Option.some.inj h
  exact fin
  refine wgo ?_
  repeat refine cj ?_
  refine Round.fx (k0, IntKind.i64.wrap (x4_0 + 1)) h (Nat.lt_succ_self k0) ?_
  exact fxs
  obtain rfl := Option.some.inj h
  have h := q0
  simp only [Flow.go_out, Flow.goL_out] at h
  try dsimp only at h
  refine wgo ?_
  repeat refine cj ?_
  obtain ⟨y7_1, hy7_1, h⟩ := bd h
  refine aCall_of (stock_Right.spec hy7_1) ?_
  obtain rfl := Option.some.inj h
  exact fin
end Go.Ax
