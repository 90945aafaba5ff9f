/- The walk of queue_Right, printed by gen.py. -/
import Derived.Test.YtjmoeebaehjmnaaGreatGa
import Derived.Test.YtjmoeebaehjmnaaGreatGs
import Derived.Test.YtjmoeebaehjmnaaGreatWc
import Derived.Test.YtjmoeebaehjmnaaGreatWb
set_option linter.unusedVariables false
set_option linter.unusedSimpArgs false
set_option linter.unusedSimpArgs false
set_option linter.unusedVariables false
namespace Go.Ax
open Go Go.Proofs
set_option maxRecDepth 100000
set_option maxHeartbeats 4000000
theorem queue_Right.spec {a0 : List api_Order} {r : Bool} (h : queue_Right.f a0 = some r) : FSpec Tryz.prog 123 [(false, [.l (rowsD api_Order.D a0)])] [.one (.d (.v (.bool r)))] := by
  unfold queue_Right.f at h
  refine fspec_data mixed Tryz.func123 rfl (by decide) [0, 2, 3, 4, 5, 6, 7] (rs := [.tmp 2]) rfl (by decide) (n := 34) rfl (by simp) ?_
  refine wgo ?_
  repeat refine cj ?_
  obtain ⟨f0, h0, q0⟩ := bd h
  rw [aCode_loop]
  refine aLoop_fx (α := Nat × Int) (fun p => (⟨34, [], [(0, .one (.l (rowsD api_Order.D a0))), (2, .one (.v (.bool false))), (3, .none), (4, .none), (5, .one (.l (rowsD api_Order.D a0))), (6, .one (.v (.int .i64 (a0.length : Int)))), (7, .one (.v (.int .i64 p.2)))]⟩ : S)) (fun p => queue_Right.l0 a0 p.1 p.2 = some f0) (fun p => p.1) (FUEL, 0) h0 ?_ ?_
  exact fxs
  rintro ⟨k0, x7_0⟩ h
  simp only at h
  obtain _ | k0 := k0
  exact absurd h (by simp [queue_Right.l0])
  rw [queue_Right.l0] at h
  refine wgo ?_
  repeat refine cj ?_
  refine kIf2 h (fun hb h => ?_) (fun hb h => ?_)
  obtain ⟨⟨hg3_1_0, hg3_1_1⟩, h⟩ := gd h
  refine wgo ?_
  repeat refine cj ?_
  obtain ⟨y4_1, hy4_1, h⟩ := bd h
  have e := queue_Order.spec hy4_1
  simp only [go_sem, List.map_set, rowsD_append, rowsD_cons, rowsD_nil, rowsD_set, rowsD_take, rowsD_drop, rowsD_replicate] at e
  refine aCall_of e ?_
  refine wgo ?_
  repeat refine cj ?_
  refine kIf3 h (fun hb h => ?_) (fun hb h => ?_)
  refine wgo ?_
  repeat refine cj ?_
  refine kIf2 h (fun hb h => ?_) (fun hb h => ?_)
  obtain ⟨⟨hg4_10_0, hg4_10_1⟩, h⟩ := gd h
  refine wgo ?_
  repeat refine cj ?_
  refine kIf2 h (fun hb h => ?_) (fun hb h => ?_)
  obtain rfl := Option.some.inj h
  have h := q0
  simp only [Flow.go_ret, Flow.goL_ret] at h
  obtain rfl := Option.some.inj h
  exact fin
  refine wgo ?_
  repeat refine cj ?_
  refine Round.fx (k0, IntKind.i64.wrap (x7_0 + 1)) h (Nat.lt_succ_self k0) ?_
  exact fxs
  refine wgo ?_
  repeat refine cj ?_
  refine Round.fx (k0, IntKind.i64.wrap (x7_0 + 1)) h (Nat.lt_succ_self k0) ?_
  exact fxs
  obtain rfl := Option.some.inj h
  have h := q0
  simp only [Flow.go_ret, Flow.goL_ret] at h
  obtain rfl := Option.some.inj h
  exact fin
  obtain rfl := Option.some.inj h
  have h := q0
  simp only [Flow.go_out, Flow.goL_out] at h
  try dsimp only at h
  obtain rfl := Option.some.inj h
  exact fin
end Go.Ax

/- The walk of roll_Members, printed by gen.py. -/
set_option linter.unusedSimpArgs false
set_option linter.unusedVariables false
namespace Go.Ax
open Go Go.Proofs
set_option maxRecDepth 100000
set_option maxHeartbeats 4000000
theorem roll_Members.spec {a0 : List api_Member} {r : Bool} (h : roll_Members.f a0 = some r) : FSpec Tryz.prog 128 [(false, [.l (rowsD api_Member.D a0)])] [.one (.d (.v (.bool r)))] := by
  unfold roll_Members.f at h
  refine fspec_data mixed Tryz.func128 rfl (by decide) [0, 2, 3, 4, 5, 6, 7] (rs := [.tmp 2]) rfl (by decide) (n := 46) rfl (by simp) ?_
  refine wgo ?_
  repeat refine cj ?_
  obtain ⟨f0, h0, q0⟩ := bd h
  rw [aCode_loop]
  refine aLoop_fx (α := Nat × Int) (fun p => (⟨46, [], [(0, .one (.l (rowsD api_Member.D a0))), (2, .one (.v (.bool false))), (3, .none), (4, .none), (5, .one (.l (rowsD api_Member.D a0))), (6, .one (.v (.int .i64 (a0.length : Int)))), (7, .one (.v (.int .i64 p.2)))]⟩ : S)) (fun p => roll_Members.l0 a0 p.1 p.2 = some f0) (fun p => p.1) (FUEL, 0) h0 ?_ ?_
  exact fxs
  rintro ⟨k0, x7_0⟩ h
  simp only at h
  obtain _ | k0 := k0
  exact absurd h (by simp [roll_Members.l0])
  rw [roll_Members.l0] at h
  refine wgo ?_
  repeat refine cj ?_
  refine kIf2 h (fun hb h => ?_) (fun hb h => ?_)
  obtain ⟨⟨hg3_1_0, hg3_1_1⟩, h⟩ := gd h
  refine wgo ?_
  repeat refine cj ?_
  refine kIf3 h (fun hb h => ?_) (fun hb h => ?_)
  refine wgo ?_
  repeat refine cj ?_
  refine kIf3 h (fun hb h => ?_) (fun hb h => ?_)
  refine wgo ?_
  repeat refine cj ?_
  refine kIf3 h (fun hb h => ?_) (fun hb h => ?_)
  refine wgo ?_
  repeat refine cj ?_
  refine kIf3 h (fun hb h => ?_) (fun hb h => ?_)
  refine wgo ?_
  repeat refine cj ?_
  refine kIf2 h (fun hb h => ?_) (fun hb h => ?_)
  obtain ⟨⟨hg4_25_0, hg4_25_1⟩, h⟩ := gd h
  refine wgo ?_
  repeat refine cj ?_
  refine kIf2 h (fun hb h => ?_) (fun hb h => ?_)
  obtain rfl := Option.some.inj h
  have h := q0
  simp only [Flow.go_ret, Flow.goL_ret] at h
  obtain rfl := Option.some.inj h
  exact fin
  refine wgo ?_
  repeat refine cj ?_
  refine Round.fx (k0, IntKind.i64.wrap (x7_0 + 1)) h (Nat.lt_succ_self k0) ?_
  exact fxs
  refine wgo ?_
  repeat refine cj ?_
  refine Round.fx (k0, IntKind.i64.wrap (x7_0 + 1)) h (Nat.lt_succ_self k0) ?_
  exact fxs
  obtain rfl := Option.some.inj h
  have h := q0
  simp only [Flow.go_ret, Flow.goL_ret] at h
  obtain rfl := Option.some.inj h
  exact fin
  obtain rfl := Option.some.inj h
  have h := q0
  simp only [Flow.go_ret, Flow.goL_ret] at h
  obtain rfl := Option.some.inj h
  exact fin
  obtain rfl := Option.some.inj h
  have h := q0
  simp only [Flow.go_ret, Flow.goL_ret] at h
  obtain rfl := Option.some.inj h
  exact fin
  obtain rfl := Option.some.inj h
  have h := q0
  simp only [Flow.go_ret, Flow.goL_ret] at h
  obtain rfl := Option.some.inj h
  exact fin
  obtain rfl := Option.some.inj h
  have h := q0
  simp only [Flow.go_out, Flow.goL_out] at h
  try dsimp only at h
  obtain rfl := Option.some.inj h
  exact fin
end Go.Ax

/- The walk of roll_Status, printed by gen.py. -/
set_option linter.unusedSimpArgs false
set_option linter.unusedVariables false
namespace Go.Ax
open Go Go.Proofs
set_option maxRecDepth 100000
set_option maxHeartbeats 4000000
theorem roll_Status.spec {a0 : List api_Member} {a1 : Int} {r : Int} (h : roll_Status.f a0 a1 = some r) : FSpec Tryz.prog 45 [(false, [.l (rowsD api_Member.D a0)]), (false, [.v (.int .i64 a1)])] [.one (.d (.v (.int .i64 r)))] := by
  unfold roll_Status.f at h
  refine fspec_data mixed Tryz.func45 rfl (by decide) [0, 1, 4, 6, 10, 11, 12] (rs := [.tmp 4]) rfl (by decide) (n := 23) rfl (by simp) ?_
  refine wgo ?_
  repeat refine cj ?_
  obtain ⟨y1_1, hy1_1, h⟩ := bd h
  refine aCall_of (roll_Members.spec hy1_1) ?_
  refine wgo ?_
  repeat refine cj ?_
  refine kIf2 h (fun hb h => ?_) (fun hb h => ?_)
  obtain rfl := Option.some.inj h
  exact fin
  refine wgo ?_
  repeat refine cj ?_
  obtain ⟨f1, h1, q1⟩ := bd h
  rw [aCode_loop]
  refine aLoop_fx (α := Nat × Int) (fun p => (⟨23, [], [(0, .one (.l (rowsD api_Member.D a0))), (1, .one (.v (.int .i64 a1))), (4, .one (.v (.int .i64 0))), (6, .none), (10, .one (.l (rowsD api_Member.D a0))), (11, .one (.v (.int .i64 (a0.length : Int)))), (12, .one (.v (.int .i64 p.2)))]⟩ : S)) (fun p => roll_Status.l0 a0 a1 p.1 p.2 = some f1) (fun p => p.1) (FUEL, 0) h1 ?_ ?_
  exact fxs
  rintro ⟨k1, x12_1⟩ h
  simp only at h
  obtain _ | k1 := k1
  exact absurd h (by simp [roll_Status.l0])
  rw [roll_Status.l0] at h
  refine wgo ?_
  repeat refine cj ?_
  refine kIf2 h (fun hb h => ?_) (fun hb h => ?_)
  obtain ⟨⟨hg5_0_0, hg5_0_1⟩, h⟩ := gd h
  refine wgo ?_
  repeat refine cj ?_
  refine kIf2 h (fun hb h => ?_) (fun hb h => ?_)
  obtain rfl := Option.some.inj h
  have h := q1
  simp only [Flow.go_ret, Flow.goL_ret] at h
  obtain rfl := Option.some.inj h
  exact fin
  refine wgo ?_
  repeat refine cj ?_
  refine Round.fx (k1, IntKind.i64.wrap (x12_1 + 1)) h (Nat.lt_succ_self k1) ?_
  exact fxs
  obtain rfl := Option.some.inj h
  have h := q1
  simp only [Flow.go_out, Flow.goL_out] at h
  try dsimp only at h
  obtain rfl := Option.some.inj h
  exact fin
end Go.Ax

/- The walk of roll_Right, printed by gen.py. -/
set_option linter.unusedSimpArgs false
set_option linter.unusedVariables false
namespace Go.Ax
open Go Go.Proofs
set_option maxRecDepth 100000
set_option maxHeartbeats 4000000
theorem roll_Right.spec {a0 : List api_Member} {a1 : List api_Acc} {r : Bool} (h : roll_Right.f a0 a1 = some r) : FSpec Tryz.prog 116 [(false, [.l (rowsD api_Member.D a0)]), (false, [.l (rowsD api_Acc.D a1)])] [.one (.d (.v (.bool r)))] := by
  unfold roll_Right.f at h
  refine fspec_data mixed Tryz.func116 rfl (by decide) [0, 1, 4, 6, 15, 16, 17] (rs := [.tmp 4]) rfl (by decide) (n := 27) rfl (by simp) ?_
  refine wgo ?_
  repeat refine cj ?_
  obtain ⟨y1_1, hy1_1, h⟩ := bd h
  refine aCall_of (roll_Members.spec hy1_1) ?_
  refine wgo ?_
  repeat refine cj ?_
  refine kIf3 h (fun hb h => ?_) (fun hb h => ?_)
  refine wgo ?_
  repeat refine cj ?_
  obtain ⟨y1_5, hy1_5, h⟩ := bd h
  refine aCall_of (roll_Accs.spec hy1_5) ?_
  refine wgo ?_
  repeat refine cj ?_
  refine kIf2 h (fun hb h => ?_) (fun hb h => ?_)
  obtain rfl := Option.some.inj h
  exact fin
  refine wgo ?_
  repeat refine cj ?_
  obtain ⟨f1, h1, q1⟩ := bd h
  rw [aCode_loop]
  refine aLoop_fx (α := Nat × Int) (fun p => (⟨27, [], [(0, .one (.l (rowsD api_Member.D a0))), (1, .one (.l (rowsD api_Acc.D a1))), (4, .one (.v (.bool false))), (6, .none), (15, .one (.l (rowsD api_Acc.D a1))), (16, .one (.v (.int .i64 (a1.length : Int)))), (17, .one (.v (.int .i64 p.2)))]⟩ : S)) (fun p => roll_Right.l0 a0 a1 p.1 p.2 = some f1) (fun p => p.1) (FUEL, 0) h1 ?_ ?_
  exact fxs
  rintro ⟨k1, x17_1⟩ h
  simp only at h
  obtain _ | k1 := k1
  exact absurd h (by simp [roll_Right.l0])
  rw [roll_Right.l0] at h
  refine wgo ?_
  repeat refine cj ?_
  refine kIf2 h (fun hb h => ?_) (fun hb h => ?_)
  obtain ⟨⟨hg5_0_0, hg5_0_1⟩, h⟩ := gd h
  refine wgo ?_
  repeat refine cj ?_
  obtain ⟨y6_3, hy6_3, h⟩ := bd h
  refine aCall_of (roll_Status.spec hy6_3) ?_
  refine wgo ?_
  repeat refine cj ?_
  refine kIf2 h (fun hb h => ?_) (fun hb h => ?_)
  obtain rfl := Option.some.inj h
  have h := q1
  simp only [Flow.go_ret, Flow.goL_ret] at h
  obtain rfl := Option.some.inj h
  exact fin
  refine wgo ?_
  repeat refine cj ?_
  refine Round.fx (k1, IntKind.i64.wrap (x17_1 + 1)) h (Nat.lt_succ_self k1) ?_
  exact fxs
  obtain rfl := Option.some.inj h
  have h := q1
  simp only [Flow.go_out, Flow.goL_out] at h
  try dsimp only at h
  obtain rfl := Option.some.inj h
  exact fin
  obtain rfl := Option.some.inj h
  exact fin
end Go.Ax

/- The walk of mark_Price, printed by gen.py. -/
set_option linter.unusedSimpArgs false
set_option linter.unusedVariables false
namespace Go.Ax
open Go Go.Proofs
set_option maxRecDepth 100000
set_option maxHeartbeats 4000000
theorem mark_Price.spec {a0 : Int} {r : Bool} (h : mark_Price.f a0 = some r) : FSpec Tryz.prog 127 [(false, [.v (.int .i64 a0)])] [.one (.d (.v (.bool r)))] := by
  unfold mark_Price.f at h
  refine fspec_data mixed Tryz.func127 rfl (by decide) [0, 2] (rs := [.tmp 2]) rfl (by decide) (n := 9) rfl (by simp) ?_
  refine wgo ?_
  repeat refine cj ?_
  refine kIf2 h (fun hb h => ?_) (fun hb h => ?_)
  obtain rfl := Option.some.inj h
  exact fin
  obtain rfl := Option.some.inj h
  exact fin
end Go.Ax

/- The walk of book_Right_1, printed by gen.py. -/
set_option linter.unusedSimpArgs false
set_option linter.unusedVariables false
namespace Go.Ax
open Go Go.Proofs
set_option maxRecDepth 100000
set_option maxHeartbeats 4000000
theorem book_Right_1.spec {a0 : Int} {r : Bool} (h : book_Right_1.f a0 = some r) : FSpec Tryz.prog 126 [(false, [.v (.int .i64 a0)])] [.one (.d (.v (.bool r)))] := by
  unfold book_Right_1.f at h
  refine fspec_data mixed Tryz.func126 rfl (by decide) [0, 2] (rs := [.tmp 2]) rfl (by decide) (n := 6) rfl (by simp) ?_
  refine wgo ?_
  repeat refine cj ?_
  obtain ⟨y1_1, hy1_1, h⟩ := bd h
  refine aCall_of (mark_Price.spec hy1_1) ?_
  obtain rfl := Option.some.inj h
  exact fin
end Go.Ax

/- The walk of slices_IndexFunc_int64_book_Right_1, printed by gen.py. -/
set_option linter.unusedSimpArgs false
set_option linter.unusedVariables false
namespace Go.Ax
open Go Go.Proofs
set_option maxRecDepth 100000
set_option maxHeartbeats 4000000
theorem slices_IndexFunc_int64_book_Right_1.spec {a0 : List Int} {r : Int} (h : slices_IndexFunc_int64_book_Right_1.f a0 = some r) : FSpec Tryz.prog 181 [(false, [.l (rowsD i64D a0)]), (false, [.v (.func (.func 126) #[] #[])])] [.one (.d (.v (.int .i64 r)))] := by
  unfold slices_IndexFunc_int64_book_Right_1.f at h
  refine fspec_data mixed Tryz.func181 rfl (by decide) [0, 1, 4, 5, 7, 8] (rs := [.tmp 4]) rfl (by decide) (n := 19) rfl (by simp) ?_
  refine wgo ?_
  repeat refine cj ?_
  obtain ⟨f0, h0, q0⟩ := bd h
  rw [aCode_loop]
  refine aLoop_fx (α := Nat × Int) (fun p => (⟨19, [], [(0, .one (.l (rowsD i64D a0))), (1, .one (.v (.func (.func 126) #[] #[]))), (4, .one (.v (.int .i64 0))), (5, .none), (7, .one (.v (.int .i64 (a0.length : Int)))), (8, .one (.v (.int .i64 p.2)))]⟩ : S)) (fun p => slices_IndexFunc_int64_book_Right_1.l0 a0 p.1 p.2 = some f0) (fun p => p.1) (FUEL, 0) h0 ?_ ?_
  exact fxs
  rintro ⟨k0, x8_0⟩ h
  simp only at h
  obtain _ | k0 := k0
  exact absurd h (by simp [slices_IndexFunc_int64_book_Right_1.l0])
  rw [slices_IndexFunc_int64_book_Right_1.l0] at h
  refine wgo ?_
  repeat refine cj ?_
  refine kIf2 h (fun hb h => ?_) (fun hb h => ?_)
  obtain ⟨⟨hg4_3_0, hg4_3_1⟩, h⟩ := gd h
  refine wgo ?_
  repeat refine cj ?_
  obtain ⟨y4_5, hy4_5, h⟩ := bd h
  refine aCall_of (book_Right_1.spec hy4_5) ?_
  refine wgo ?_
  repeat refine cj ?_
  refine kIf2 h (fun hb h => ?_) (fun hb h => ?_)
  obtain rfl := Option.some.inj h
  have h := q0
  simp only [Flow.go_ret, Flow.goL_ret] at h
  obtain rfl := Option.some.inj h
  exact fin
  refine wgo ?_
  repeat refine cj ?_
  refine Round.fx (k0, IntKind.i64.wrap (x8_0 + 1)) h (Nat.lt_succ_self k0) ?_
  exact fxs
  obtain rfl := Option.some.inj h
  have h := q0
  simp only [Flow.go_out, Flow.goL_out] at h
  try dsimp only at h
  obtain rfl := Option.some.inj h
  exact fin
end Go.Ax

/- The walk of slices_ContainsFunc_int64_book_Right_1, printed by gen.py. -/
set_option linter.unusedSimpArgs false
set_option linter.unusedVariables false
namespace Go.Ax
open Go Go.Proofs
set_option maxRecDepth 100000
set_option maxHeartbeats 4000000
theorem slices_ContainsFunc_int64_book_Right_1.spec {a0 : List Int} {r : Bool} (h : slices_ContainsFunc_int64_book_Right_1.f a0 = some r) : FSpec Tryz.prog 125 [(false, [.l (rowsD i64D a0)]), (false, [.v (.func (.func 126) #[] #[])])] [.one (.d (.v (.bool r)))] := by
  unfold slices_ContainsFunc_int64_book_Right_1.f at h
  refine fspec_data mixed Tryz.func125 rfl (by decide) [0, 1, 4] (rs := [.tmp 4]) rfl (by decide) (n := 9) rfl (by simp) ?_
  refine wgo ?_
  repeat refine cj ?_
  obtain ⟨y1_2, hy1_2, h⟩ := bd h
  refine aCall_of (slices_IndexFunc_int64_book_Right_1.spec hy1_2) ?_
  obtain rfl := Option.some.inj h
  exact fin
end Go.Ax

/- The walk of stock_Quantity, printed by gen.py. -/
set_option linter.unusedSimpArgs false
set_option linter.unusedVariables false
namespace Go.Ax
open Go Go.Proofs
set_option maxRecDepth 100000
set_option maxHeartbeats 4000000
theorem stock_Quantity.spec {a0 : Int} {r : Bool} (h : stock_Quantity.f a0 = some r) : FSpec Tryz.prog 96 [(false, [.v (.int .i64 a0)])] [.one (.d (.v (.bool r)))] := by
  unfold stock_Quantity.f at h
  refine fspec_data mixed Tryz.func96 rfl (by decide) [0, 2] (rs := [.tmp 2]) rfl (by decide) (n := 5) rfl (by simp) ?_
  obtain rfl := Option.some.inj h
  exact fin
end Go.Ax

/- The walk of stock_key, printed by gen.py. -/
set_option linter.unusedSimpArgs false
set_option linter.unusedVariables false
namespace Go.Ax
open Go Go.Proofs
set_option maxRecDepth 100000
set_option maxHeartbeats 4000000
theorem stock_key.spec {a0 : Int} {a1 : Int} {r : Bool} (h : stock_key.f a0 a1 = some r) : FSpec Tryz.prog 182 [(false, [.v (.int .i64 a0)]), (false, [.v (.int .i64 a1)])] [.one (.d (.v (.bool r)))] := by
  unfold stock_key.f at h
  refine fspec_data mixed Tryz.func182 rfl (by decide) [0, 1, 4] (rs := [.tmp 4]) rfl (by decide) (n := 19) rfl (by simp) ?_
  refine wgo ?_
  repeat refine cj ?_
  refine kIf2 h (fun hb h => ?_) (fun hb h => ?_)
  refine wgo ?_
  repeat refine cj ?_
  refine kIf2 h (fun hb h => ?_) (fun hb h => ?_)
  refine wgo ?_
  repeat refine cj ?_
  refine kIf2 h (fun hb h => ?_) (fun hb h => ?_)
  obtain rfl := Option.some.inj h
  exact fin
  obtain rfl := Option.some.inj h
  exact fin
  obtain rfl := Option.some.inj h
  exact fin
  obtain rfl := Option.some.inj h
  exact fin
end Go.Ax

/- The walk of stock_order, printed by gen.py. -/
set_option linter.unusedSimpArgs false
set_option linter.unusedVariables false
namespace Go.Ax
open Go Go.Proofs
set_option maxRecDepth 100000
set_option maxHeartbeats 4000000
theorem stock_order.spec {a0 : Int} {a1 : Int} {a2 : api_Pos} {r : Int} (h : stock_order.f a0 a1 a2 = some r) : FSpec Tryz.prog 183 [(false, [.v (.int .i64 a0)]), (false, [.v (.int .i64 a1)]), (true, api_Pos.D a2)] [.one (.d (.v (.int .i64 r)))] := by
  unfold stock_order.f at h
  refine fspec_data mixed Tryz.func183 rfl (by decide) [0, 1, 2, 5, 6] (rs := [.tmp 6]) rfl (by decide) (n := 19) rfl (by simp) ?_
  refine wgo ?_
  repeat refine cj ?_
  refine kIf2 h (fun hb h => ?_) (fun hb h => ?_)
  obtain rfl := Option.some.inj h
  exact fin
  obtain rfl := Option.some.inj h
  exact fin
end Go.Ax
