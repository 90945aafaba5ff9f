/- The walk of slices_Clone_api_Acc, printed by gen.py. -/
import Derived.Test.YtjmoeebaehjmnaaGreatGa
import Derived.Test.YtjmoeebaehjmnaaGreatGs
import Derived.Test.YtjmoeebaehjmnaaGreatWb
import Derived.Test.YtjmoeebaehjmnaaGreatWd
import Derived.Test.YtjmoeebaehjmnaaGreatWf
import Derived.Test.YtjmoeebaehjmnaaGreatWe
set_option linter.unusedVariables false
set_option linter.unusedSimpArgs false
set_option linter.unusedSimpArgs false
set_option linter.unusedVariables false
namespace Go.Ax
open Go Go.Proofs
set_option maxRecDepth 100000
set_option maxHeartbeats 4000000
theorem slices_Clone_api_Acc.spec {a0 : List api_Acc} {r : (List api_Acc)} (h : slices_Clone_api_Acc.f a0 = some r) : FSpec Tryz.prog 111 [(false, [.l (rowsD api_Acc.D a0)])] [.one (.own 4 (rowsD api_Acc.D r))] := by
  unfold slices_Clone_api_Acc.f at h
  refine fspec_mix [true] mixed Tryz.func111 rfl (by decide) [0, 2] (rs := [.tmp 2]) rfl (by decide) (n := 8) rfl (by simp) ?_
  refine wgo ?_
  repeat refine cj ?_
  refine kNil_of ?_ (fun hb => ?_)
  replace h := nilT_f h
  obtain ⟨hg3_2, h⟩ := gd h
  obtain rfl := Option.some.inj h
  exact fin
  replace h := nilT_t h (rowsD_eq_nil _ hb)
  obtain rfl := Option.some.inj h
  exact fin
end Go.Ax

/- The walk of slices_Clone_api_Member, printed by gen.py. -/
set_option linter.unusedSimpArgs false
set_option linter.unusedVariables false
namespace Go.Ax
open Go Go.Proofs
set_option maxRecDepth 100000
set_option maxHeartbeats 4000000
theorem slices_Clone_api_Member.spec {a0 : List api_Member} {r : (List api_Member)} (h : slices_Clone_api_Member.f a0 = some r) : FSpec Tryz.prog 110 [(false, [.l (rowsD api_Member.D a0)])] [.one (.own 2 (rowsD api_Member.D r))] := by
  unfold slices_Clone_api_Member.f at h
  refine fspec_mix [true] mixed Tryz.func110 rfl (by decide) [0, 2] (rs := [.tmp 2]) rfl (by decide) (n := 8) rfl (by simp) ?_
  refine wgo ?_
  repeat refine cj ?_
  refine kNil_of ?_ (fun hb => ?_)
  replace h := nilT_f h
  obtain ⟨hg3_2, h⟩ := gd h
  obtain rfl := Option.some.inj h
  exact fin
  replace h := nilT_t h (rowsD_eq_nil _ hb)
  obtain rfl := Option.some.inj h
  exact fin
end Go.Ax

/- The walk of slices_Clone_api_Order, printed by gen.py. -/
set_option linter.unusedSimpArgs false
set_option linter.unusedVariables false
namespace Go.Ax
open Go Go.Proofs
set_option maxRecDepth 100000
set_option maxHeartbeats 4000000
theorem slices_Clone_api_Order.spec {a0 : List api_Order} {r : (List api_Order)} (h : slices_Clone_api_Order.f a0 = some r) : FSpec Tryz.prog 115 [(false, [.l (rowsD api_Order.D a0)])] [.one (.own 6 (rowsD api_Order.D r))] := by
  unfold slices_Clone_api_Order.f at h
  refine fspec_mix [true] mixed Tryz.func115 rfl (by decide) [0, 2] (rs := [.tmp 2]) rfl (by decide) (n := 8) rfl (by simp) ?_
  refine wgo ?_
  repeat refine cj ?_
  refine kNil_of ?_ (fun hb => ?_)
  replace h := nilT_f h
  obtain ⟨hg3_2, h⟩ := gd h
  obtain rfl := Option.some.inj h
  exact fin
  replace h := nilT_t h (rowsD_eq_nil _ hb)
  obtain rfl := Option.some.inj h
  exact fin
end Go.Ax

/- The walk of slices_Clone_api_Pos, printed by gen.py. -/
set_option linter.unusedSimpArgs false
set_option linter.unusedVariables false
namespace Go.Ax
open Go Go.Proofs
set_option maxRecDepth 100000
set_option maxHeartbeats 4000000
theorem slices_Clone_api_Pos.spec {a0 : List api_Pos} {r : (List api_Pos)} (h : slices_Clone_api_Pos.f a0 = some r) : FSpec Tryz.prog 113 [(false, [.l (rowsD api_Pos.D a0)])] [.one (.own 3 (rowsD api_Pos.D r))] := by
  unfold slices_Clone_api_Pos.f at h
  refine fspec_mix [true] mixed Tryz.func113 rfl (by decide) [0, 2] (rs := [.tmp 2]) rfl (by decide) (n := 8) rfl (by simp) ?_
  refine wgo ?_
  repeat refine cj ?_
  refine kNil_of ?_ (fun hb => ?_)
  replace h := nilT_f h
  obtain ⟨hg3_2, h⟩ := gd h
  obtain rfl := Option.some.inj h
  exact fin
  replace h := nilT_t h (rowsD_eq_nil _ hb)
  obtain rfl := Option.some.inj h
  exact fin
end Go.Ax

/- The walk of slices_Clone_api_Row, printed by gen.py. -/
set_option linter.unusedSimpArgs false
set_option linter.unusedVariables false
namespace Go.Ax
open Go Go.Proofs
set_option maxRecDepth 100000
set_option maxHeartbeats 4000000
theorem slices_Clone_api_Row.spec {a0 : List api_Row} {r : (List api_Row)} (h : slices_Clone_api_Row.f a0 = some r) : FSpec Tryz.prog 112 [(false, [.l (rowsD api_Row.D a0)])] [.one (.own 3 (rowsD api_Row.D r))] := by
  unfold slices_Clone_api_Row.f at h
  refine fspec_mix [true] mixed Tryz.func112 rfl (by decide) [0, 2] (rs := [.tmp 2]) rfl (by decide) (n := 8) rfl (by simp) ?_
  refine wgo ?_
  repeat refine cj ?_
  refine kNil_of ?_ (fun hb => ?_)
  replace h := nilT_f h
  obtain ⟨hg3_2, h⟩ := gd h
  obtain rfl := Option.some.inj h
  exact fin
  replace h := nilT_t h (rowsD_eq_nil _ hb)
  obtain rfl := Option.some.inj h
  exact fin
end Go.Ax

/- The walk of slices_Clone_int64, printed by gen.py. -/
set_option linter.unusedSimpArgs false
set_option linter.unusedVariables false
namespace Go.Ax
open Go Go.Proofs
set_option maxRecDepth 100000
set_option maxHeartbeats 4000000
theorem slices_Clone_int64.spec {a0 : List Int} {r : (List Int)} (h : slices_Clone_int64.f a0 = some r) : FSpec Tryz.prog 114 [(false, [.l (rowsD i64D a0)])] [.one (.own 1 (rowsD i64D r))] := by
  unfold slices_Clone_int64.f at h
  refine fspec_mix [true] mixed Tryz.func114 rfl (by decide) [0, 2] (rs := [.tmp 2]) rfl (by decide) (n := 8) rfl (by simp) ?_
  refine wgo ?_
  repeat refine cj ?_
  refine kNil_of ?_ (fun hb => ?_)
  replace h := nilT_f h
  obtain ⟨hg3_2, h⟩ := gd h
  obtain rfl := Option.some.inj h
  exact fin
  replace h := nilT_t h (rowsD_eq_nil _ hb)
  obtain rfl := Option.some.inj h
  exact fin
end Go.Ax

/- The walk of book_Copy, printed by gen.py. -/
set_option linter.unusedSimpArgs false
set_option linter.unusedVariables false
namespace Go.Ax
open Go Go.Proofs
set_option maxRecDepth 100000
set_option maxHeartbeats 4000000
theorem book_Copy.spec {a0 : api_Book} {r : api_Book} (h : book_Copy.f a0 = some r) : FSpec Tryz.prog 40 [(true, api_Book.D a0)] [.agg (api_Book.D r)] := by
  unfold book_Copy.f at h
  refine fspec_data mixed Tryz.func40 rfl (by decide) [0, 1, 2] (rs := [.cell 2 32]) rfl (by decide) (n := 22) rfl (by simp) ?_
  refine wgo ?_
  repeat refine cj ?_
  obtain ⟨y1_2, hy1_2, h⟩ := bd h
  refine aCall_of (slices_Clone_api_Member.spec hy1_2) ?_
  refine wgo ?_
  repeat refine cj ?_
  obtain ⟨y1_5, hy1_5, h⟩ := bd h
  refine aCall_of (slices_Clone_api_Acc.spec hy1_5) ?_
  refine wgo ?_
  repeat refine cj ?_
  obtain ⟨y1_8, hy1_8, h⟩ := bd h
  refine aCall_of (slices_Clone_api_Row.spec hy1_8) ?_
  refine wgo ?_
  repeat refine cj ?_
  obtain ⟨y1_11, hy1_11, h⟩ := bd h
  refine aCall_of (slices_Clone_api_Pos.spec hy1_11) ?_
  refine wgo ?_
  repeat refine cj ?_
  obtain ⟨y1_14, hy1_14, h⟩ := bd h
  refine aCall_of (slices_Clone_int64.spec hy1_14) ?_
  refine wgo ?_
  repeat refine cj ?_
  obtain ⟨y1_17, hy1_17, h⟩ := bd h
  refine aCall_of (slices_Clone_api_Order.spec hy1_17) ?_
  obtain rfl := Option.some.inj h
  exact fin
end Go.Ax

/- The walk of roll_with, printed by gen.py. -/
set_option linter.unusedSimpArgs false
set_option linter.unusedVariables false
namespace Go.Ax
open Go Go.Proofs
set_option maxRecDepth 100000
set_option maxHeartbeats 4000000
theorem roll_with.spec {a0 : List api_Acc} {a1 : api_Acc} {r : (List api_Acc)} (h : roll_with.f a0 a1 = some r) : FSpec Tryz.prog 117 [(false, [.l (rowsD api_Acc.D a0)]), (true, api_Acc.D a1)] [.one (.d (.l (rowsD api_Acc.D r)))] := by
  unfold roll_with.f at h
  refine fspec_data mixed Tryz.func117 rfl (by decide) [0, 1, 3, 4, 5, 6, 10, 11] (rs := [.tmp 4]) rfl (by decide) (n := 28) rfl (by simp) ?_
  refine wgo ?_
  repeat refine cj ?_
  obtain ⟨y1_1, hy1_1, h⟩ := bd h
  refine aCall_of (slices_Clone_api_Acc.spec hy1_1) ?_
  refine wgo ?_
  repeat refine cj ?_
  obtain ⟨s0, h0, q0⟩ := bd h
  rw [aCode_loop]
  refine aLoop_fx (α := Nat × (List api_Acc) × Int) (fun p => (⟨28, [], [(0, .one (.l (rowsD api_Acc.D a0))), (1, .agg (api_Acc.D a1)), (3, .box [.d (.v (.int .i64 a1.Id)), .d (.v (.int .i64 a1.Member)), .d (.v (.int .i64 a1.Kind)), .d (.v (.int .i64 a1.Limit))]), (4, .own 4 (rowsD api_Acc.D ([] : List api_Acc))), (5, .own 4 (rowsD api_Acc.D p.2.1)), (6, .none), (10, .one (.v (.int .i64 (y1_1.length : Int)))), (11, .one (.v (.int .i64 p.2.2)))]⟩ : S)) (fun p => roll_with.l0 a1 y1_1 p.1 p.2.1 p.2.2 = some s0) (fun p => p.1) (FUEL, y1_1, 0) h0 ?_ ?_
  exact fxs
  rintro ⟨k0, x5_0, x11_0⟩ h
  simp only at h
  obtain _ | k0 := k0
  exact absurd h (by simp [roll_with.l0])
  rw [roll_with.l0] at h
  refine wgo ?_
  repeat refine cj ?_
  refine kIf2 h (fun hb h => ?_) (fun hb h => ?_)
  obtain ⟨⟨hg5_2_0, hg5_2_1⟩, h⟩ := gd h
  have hr0 := fun z => rd_in api_Acc.D x5_0 (i := x11_0) z (by omega) (by omega)
  try simp (maxSteps := 2000000) only [go_sem, ↓reduceIte, reduceCtorEq, Nat.reduceLT, Nat.reduceLeDiff, Nat.reduceEqDiff, Nat.reduceMul, Nat.reduceAdd, Nat.reduceSub, Int.reduceLE, Int.reduceLT, hr0]
  repeat refine cj ?_
  refine kIf2 h (fun hb h => ?_) (fun hb h => ?_)
  have hr1 := fun z => rd_in api_Acc.D x5_0 (i := x11_0) z (by omega) (by omega)
  try simp (maxSteps := 2000000) only [go_sem, ↓reduceIte, reduceCtorEq, Nat.reduceLT, Nat.reduceLeDiff, Nat.reduceEqDiff, Nat.reduceMul, Nat.reduceAdd, Nat.reduceSub, Int.reduceLE, Int.reduceLT, hr0, hr1]
  repeat refine cj ?_
  refine Round.fx (k0, x5_0.set x11_0.toNat a1, IntKind.i64.wrap (x11_0 + 1)) h (Nat.lt_succ_self k0) ?_
  exact fxs
  try simp (maxSteps := 2000000) only [go_sem, ↓reduceIte, reduceCtorEq, Nat.reduceLT, Nat.reduceLeDiff, Nat.reduceEqDiff, Nat.reduceMul, Nat.reduceAdd, Nat.reduceSub, Int.reduceLE, Int.reduceLT, hr0]
  repeat refine cj ?_
  refine Round.fx (k0, x5_0, IntKind.i64.wrap (x11_0 + 1)) h (Nat.lt_succ_self k0) ?_
  exact fxs
  obtain rfl := Option.some.inj h
  have h := q0
  try dsimp only at h
  obtain rfl := Option.some.inj h
  exact fin
end Go.Ax

/- The walk of roll_Port, printed by gen.py. -/
set_option linter.unusedSimpArgs false
set_option linter.unusedVariables false
namespace Go.Ax
open Go Go.Proofs
set_option maxRecDepth 100000
set_option maxHeartbeats 4000000
theorem roll_Port.spec {a0 : List api_Member} {a1 : List api_Acc} {a2 : Int} {a3 : Int} {r : (List api_Acc) × Int} (h : roll_Port.f a0 a1 a2 a3 = some r) : FSpec Tryz.prog 41 [(false, [.l (rowsD api_Member.D a0)]), (false, [.l (rowsD api_Acc.D a1)]), (false, [.v (.int .i64 a2)]), (false, [.v (.int .i64 a3)])] [.one (.d (.l (rowsD api_Acc.D r.1))), .one (.d (.v (.int .i64 r.2)))] := by
  unfold roll_Port.f at h
  refine fspec_data mixed Tryz.func41 rfl (by decide) [0, 1, 2, 3, 8, 9, 10, 11, 12, 26] (rs := [.tmp 8, .tmp 9]) rfl (by decide) (n := 43) rfl (by simp) ?_
  refine wgo ?_
  repeat refine cj ?_
  obtain ⟨y1_2, hy1_2, h⟩ := bd h
  refine aCall_of (roll_Right.spec hy1_2) ?_
  refine wgo ?_
  repeat refine cj ?_
  refine kIf2 h (fun hb h => ?_) (fun hb h => ?_)
  obtain rfl := Option.some.inj h
  exact fin
  refine wgo ?_
  repeat refine cj ?_
  obtain ⟨y3_2, hy3_2, h⟩ := bd h
  refine aCall_of (roll_Find.spec hy3_2) ?_
  refine wgo ?_
  repeat refine cj ?_
  obtain ⟨y4_2, hy4_2, h⟩ := bd h
  refine aCall_of (roll_Status.spec hy4_2) ?_
  refine wgo ?_
  repeat refine cj ?_
  refine kIf2 h (fun hb h => ?_) (fun hb h => ?_)
  refine wgo ?_
  repeat refine cj ?_
  refine kIf2 h (fun hb h => ?_) (fun hb h => ?_)
  obtain rfl := Option.some.inj h
  exact fin
  refine wgo ?_
  repeat refine cj ?_
  refine kIf2 h (fun hb h => ?_) (fun hb h => ?_)
  obtain rfl := Option.some.inj h
  exact fin
  refine wgo ?_
  repeat refine cj ?_
  refine kIf2 h (fun hb h => ?_) (fun hb h => ?_)
  obtain rfl := Option.some.inj h
  exact fin
  refine wgo ?_
  repeat refine cj ?_
  obtain ⟨y13_2, hy13_2, h⟩ := bd h
  refine aCall_of (roll_with.spec hy13_2) ?_
  obtain rfl := Option.some.inj h
  exact fin
  refine wgo ?_
  repeat refine cj ?_
  refine kIf2 h (fun hb h => ?_) (fun hb h => ?_)
  obtain rfl := Option.some.inj h
  exact fin
  refine wgo ?_
  repeat refine cj ?_
  refine kIf2 h (fun hb h => ?_) (fun hb h => ?_)
  obtain rfl := Option.some.inj h
  exact fin
  refine wgo ?_
  repeat refine cj ?_
  refine kIf2 h (fun hb h => ?_) (fun hb h => ?_)
  obtain rfl := Option.some.inj h
  exact fin
  refine wgo ?_
  repeat refine cj ?_
  obtain ⟨y13_2, hy13_2, h⟩ := bd h
  refine aCall_of (roll_with.spec hy13_2) ?_
  obtain rfl := Option.some.inj h
  exact fin
end Go.Ax

/- The walk of port_Port, printed by gen.py. -/
set_option linter.unusedSimpArgs false
set_option linter.unusedVariables false
namespace Go.Ax
open Go Go.Proofs
set_option maxRecDepth 100000
set_option maxHeartbeats 4000000
theorem port_Port.spec {a0 : api_Config} {a1 : api_Book} {a2 : Int} {a3 : Int} {a4 : Int} {r : api_Book × Int} (h : port_Port.f a0 a1 a2 a3 a4 = some r) : FSpec Tryz.prog 13 [(true, api_Config.D a0), (true, api_Book.D a1), (false, [.v (.int .i64 a2)]), (false, [.v (.int .i64 a3)]), (false, [.v (.int .i64 a4)])] [.agg (api_Book.D r.1), .one (.d (.v (.int .i64 r.2)))] := by
  unfold port_Port.f at h
  refine fspec_data mixed Tryz.func13 rfl (by decide) [0, 1, 2, 3, 4, 5, 6, 10, 11, 12, 13] (rs := [.cell 10 32, .tmp 11]) rfl (by decide) (n := 42) rfl (by simp) ?_
  refine wgo ?_
  repeat refine cj ?_
  obtain ⟨y1_5, hy1_5, h⟩ := bd h
  refine aCall_of (port_May.spec hy1_5) ?_
  refine wgo ?_
  repeat refine cj ?_
  refine kIf2 h (fun hb h => ?_) (fun hb h => ?_)
  obtain rfl := Option.some.inj h
  exact fin
  refine wgo ?_
  repeat refine cj ?_
  obtain ⟨y4_1, hy4_1, h⟩ := bd h
  refine aCall_of (book_Copy.spec hy4_1) ?_
  refine wgo ?_
  repeat refine cj ?_
  obtain ⟨y5_6, hy5_6, h⟩ := bd h
  refine aCall_of (roll_Port.spec hy5_6) ?_
  refine wgo ?_
  repeat refine cj ?_
  refine kIf2 h (fun hb h => ?_) (fun hb h => ?_)
  obtain rfl := Option.some.inj h
  exact fin
  obtain rfl := Option.some.inj h
  exact fin
end Go.Ax

/- The walk of port_Stay, printed by gen.py. -/
set_option linter.unusedSimpArgs false
set_option linter.unusedVariables false
namespace Go.Ax
open Go Go.Proofs
set_option maxRecDepth 100000
set_option maxHeartbeats 4000000
theorem port_Stay.spec {a0 : api_Config} {a1 : api_Book} {a2 : Int} {r : (List Int) × Int} (h : port_Stay.f a0 a1 a2 = some r) : FSpec Tryz.prog 15 [(true, api_Config.D a0), (true, api_Book.D a1), (false, [.v (.int .i64 a2)])] [.one (.d (.l (rowsD i64D r.1))), .one (.d (.v (.int .i64 r.2)))] := by
  unfold port_Stay.f at h
  refine fspec_data mixed Tryz.func15 rfl (by decide) [0, 1, 2, 3, 4, 6, 7, 8, 10, 23, 24, 25] (rs := [.tmp 6, .tmp 7]) rfl (by decide) (n := 45) rfl (by simp) ?_
  refine wgo ?_
  repeat refine cj ?_
  obtain ⟨y1_2, hy1_2, h⟩ := bd h
  refine aCall_of (book_Right.spec hy1_2) ?_
  refine wgo ?_
  repeat refine cj ?_
  refine kIf2 h (fun hb h => ?_) (fun hb h => ?_)
  obtain rfl := Option.some.inj h
  exact fin
  refine wgo ?_
  repeat refine cj ?_
  obtain ⟨y3_3, hy3_3, h⟩ := bd h
  refine aCall_of (roll_Status.spec hy3_3) ?_
  refine wgo ?_
  repeat refine cj ?_
  refine kIf2 h (fun hb h => ?_) (fun hb h => ?_)
  obtain rfl := Option.some.inj h
  exact fin
  refine wgo ?_
  repeat refine cj ?_
  obtain ⟨s2, h2, q2⟩ := bd h
  rw [aCode_loop]
  refine aLoop_fx (α := Nat × (List Int) × Int) (fun p => (⟨45, [], [(0, .agg (api_Config.D a0)), (1, .agg (api_Book.D a1)), (2, .one (.v (.int .i64 a2))), (3, .box [.d (.l (rowsD api_Inst.D a0.Insts)), .d (.v (.int .i64 a0.Skin)), .d (.v (.int .i64 a0.Times)), .d (.v (.int .i64 a0.Port)), .d (.v (.int .i64 a0.Bid)), .d (.v (.int .i64 a0.LotSize)), .d (.v (.int .i64 a0.HedgeMin))]), (4, .box [.d (.l (rowsD api_Member.D a1.Members)), .d (.l (rowsD api_Acc.D a1.Accs)), .d (.l (rowsD api_Row.D a1.Rows)), .d (.l (rowsD api_Pos.D a1.Stock)), .d (.l (rowsD i64D a1.Prices)), .d (.l (rowsD api_Order.D a1.Orders))]), (6, .own 1 (rowsD i64D ([] : List Int))), (7, .one (.v (.int .i64 0))), (8, .own 1 (rowsD i64D p.2.1)), (10, .none), (23, .one (.l (rowsD api_Acc.D a1.Accs))), (24, .one (.v (.int .i64 (a1.Accs.length : Int)))), (25, .one (.v (.int .i64 p.2.2)))]⟩ : S)) (fun p => port_Stay.l0 a1 a2 p.1 p.2.1 p.2.2 = some s2) (fun p => p.1) (FUEL, ([] : List Int), 0) h2 ?_ ?_
  exact fxs
  rintro ⟨k2, x8_2, x25_2⟩ h
  simp only at h
  obtain _ | k2 := k2
  exact absurd h (by simp [port_Stay.l0])
  rw [port_Stay.l0] at h
  refine wgo ?_
  repeat refine cj ?_
  refine kIf2 h (fun hb h => ?_) (fun hb h => ?_)
  obtain ⟨⟨hg8_0_0, hg8_0_1⟩, h⟩ := gd h
  refine wgo ?_
  repeat refine cj ?_
  refine kIf2 h (fun hb h => ?_) (fun hb h => ?_)
  refine wgo ?_
  repeat refine cj ?_
  refine kIf2 h (fun hb h => ?_) (fun hb h => ?_)
  obtain ⟨hg10_4, h⟩ := gd h
  refine wgo ?_
  repeat refine cj ?_
  refine Round.fx (k2, x8_2 ++ ([(rd a1.Accs x25_2).Id]), IntKind.i64.wrap (x25_2 + 1)) h (Nat.lt_succ_self k2) ?_
  exact fxs
  refine wgo ?_
  repeat refine cj ?_
  refine Round.fx (k2, x8_2, IntKind.i64.wrap (x25_2 + 1)) h (Nat.lt_succ_self k2) ?_
  exact fxs
  refine wgo ?_
  repeat refine cj ?_
  refine Round.fx (k2, x8_2, IntKind.i64.wrap (x25_2 + 1)) h (Nat.lt_succ_self k2) ?_
  exact fxs
  obtain rfl := Option.some.inj h
  have h := q2
  try dsimp only at h
  obtain rfl := Option.some.inj h
  exact fin
end Go.Ax
