/- The walk of ledger_Key, printed by gen.py. -/
import Derived.Test.YtmpbhgofllbejaaGa
import Derived.Test.YtmpbhgofllbejaaGs
import Derived.Test.YtmpbhgofllbejaaIna
set_option linter.unusedVariables false
set_option linter.unusedSimpArgs false
set_option linter.unusedSimpArgs false
set_option linter.unusedVariables false
namespace Go.Ax
open Go Go.Proofs
set_option maxRecDepth 100000
set_option maxHeartbeats 4000000
theorem ledger_Key.spec {a0 : Int} {a1 : Int} {r : Bool} (h : ledger_Key.f a0 a1 = some r) : FSpec Try.prog 33 [(false, [.v (.int .i64 a0)]), (false, [.v (.int .i64 a1)])] [.one (.d (.v (.bool r)))] := by
  unfold ledger_Key.f at h
  refine fspec_data mixed Try.func33 rfl (by decide) [0, 1, 4, 5, 6, 21] (rs := [.tmp 4]) rfl (by decide) (n := 30) rfl (by simp) ?_
  refine wgo ?_
  repeat refine cj ?_
  refine kIf2 h (fun hb h => ?_) (fun hb h => ?_)
  refine wgo ?_
  repeat refine cj ?_
  refine kIf2 h (fun hb h => ?_) (fun hb h => ?_)
  obtain rfl := Option.some.inj h
  exact fin
  refine wgo ?_
  repeat refine cj ?_
  refine kIf2 h (fun hb h => ?_) (fun hb h => ?_)
  refine wgo ?_
  repeat refine cj ?_
  refine kIf2 h (fun hb h => ?_) (fun hb h => ?_)
  obtain rfl := Option.some.inj h
  exact fin
  obtain rfl := Option.some.inj h
  exact fin
  refine wgo ?_
  repeat refine cj ?_
  refine kIf2 h (fun hb h => ?_) (fun hb h => ?_)
  refine wgo ?_
  repeat refine cj ?_
  refine kIf2 h (fun hb h => ?_) (fun hb h => ?_)
  refine wgo ?_
  repeat refine cj ?_
  refine kIf2 h (fun hb h => ?_) (fun hb h => ?_)
  obtain rfl := Option.some.inj h
  exact fin
  obtain rfl := Option.some.inj h
  exact fin
  obtain rfl := Option.some.inj h
  exact fin
  refine wgo ?_
  repeat refine cj ?_
  refine kIf2 h (fun hb h => ?_) (fun hb h => ?_)
  refine wgo ?_
  repeat refine cj ?_
  refine kIf2 h (fun hb h => ?_) (fun hb h => ?_)
  obtain rfl := Option.some.inj h
  exact fin
  obtain rfl := Option.some.inj h
  exact fin
  obtain rfl := Option.some.inj h
  exact fin
  refine wgo ?_
  repeat refine cj ?_
  refine kIf2 h (fun hb h => ?_) (fun hb h => ?_)
  refine wgo ?_
  repeat refine cj ?_
  refine kIf2 h (fun hb h => ?_) (fun hb h => ?_)
  obtain rfl := Option.some.inj h
  exact fin
  refine wgo ?_
  repeat refine cj ?_
  refine kIf2 h (fun hb h => ?_) (fun hb h => ?_)
  refine wgo ?_
  repeat refine cj ?_
  refine kIf2 h (fun hb h => ?_) (fun hb h => ?_)
  obtain rfl := Option.some.inj h
  exact fin
  obtain rfl := Option.some.inj h
  exact fin
  refine wgo ?_
  repeat refine cj ?_
  refine kIf2 h (fun hb h => ?_) (fun hb h => ?_)
  refine wgo ?_
  repeat refine cj ?_
  refine kIf2 h (fun hb h => ?_) (fun hb h => ?_)
  refine wgo ?_
  repeat refine cj ?_
  refine kIf2 h (fun hb h => ?_) (fun hb h => ?_)
  obtain rfl := Option.some.inj h
  exact fin
  obtain rfl := Option.some.inj h
  exact fin
  obtain rfl := Option.some.inj h
  exact fin
  refine wgo ?_
  repeat refine cj ?_
  refine kIf2 h (fun hb h => ?_) (fun hb h => ?_)
  refine wgo ?_
  repeat refine cj ?_
  refine kIf2 h (fun hb h => ?_) (fun hb h => ?_)
  obtain rfl := Option.some.inj h
  exact fin
  obtain rfl := Option.some.inj h
  exact fin
  obtain rfl := Option.some.inj h
  exact fin
  refine wgo ?_
  repeat refine cj ?_
  refine kIf2 h (fun hb h => ?_) (fun hb h => ?_)
  refine wgo ?_
  repeat refine cj ?_
  refine kIf2 h (fun hb h => ?_) (fun hb h => ?_)
  obtain rfl := Option.some.inj h
  exact fin
  refine wgo ?_
  repeat refine cj ?_
  refine kIf2 h (fun hb h => ?_) (fun hb h => ?_)
  refine wgo ?_
  repeat refine cj ?_
  refine kIf2 h (fun hb h => ?_) (fun hb h => ?_)
  obtain rfl := Option.some.inj h
  exact fin
  obtain rfl := Option.some.inj h
  exact fin
  refine wgo ?_
  repeat refine cj ?_
  refine kIf2 h (fun hb h => ?_) (fun hb h => ?_)
  refine wgo ?_
  repeat refine cj ?_
  refine kIf2 h (fun hb h => ?_) (fun hb h => ?_)
  refine wgo ?_
  repeat refine cj ?_
  refine kIf2 h (fun hb h => ?_) (fun hb h => ?_)
  obtain rfl := Option.some.inj h
  exact fin
  obtain rfl := Option.some.inj h
  exact fin
  obtain rfl := Option.some.inj h
  exact fin
  refine wgo ?_
  repeat refine cj ?_
  refine kIf2 h (fun hb h => ?_) (fun hb h => ?_)
  refine wgo ?_
  repeat refine cj ?_
  refine kIf2 h (fun hb h => ?_) (fun hb h => ?_)
  obtain rfl := Option.some.inj h
  exact fin
  obtain rfl := Option.some.inj h
  exact fin
  obtain rfl := Option.some.inj h
  exact fin
  refine wgo ?_
  repeat refine cj ?_
  refine kIf2 h (fun hb h => ?_) (fun hb h => ?_)
  obtain rfl := Option.some.inj h
  exact fin
  refine wgo ?_
  repeat refine cj ?_
  refine kIf2 h (fun hb h => ?_) (fun hb h => ?_)
  refine wgo ?_
  repeat refine cj ?_
  refine kIf2 h (fun hb h => ?_) (fun hb h => ?_)
  obtain rfl := Option.some.inj h
  exact fin
  obtain rfl := Option.some.inj h
  exact fin
  refine wgo ?_
  repeat refine cj ?_
  refine kIf2 h (fun hb h => ?_) (fun hb h => ?_)
  refine wgo ?_
  repeat refine cj ?_
  refine kIf2 h (fun hb h => ?_) (fun hb h => ?_)
  refine wgo ?_
  repeat refine cj ?_
  refine kIf2 h (fun hb h => ?_) (fun hb h => ?_)
  obtain rfl := Option.some.inj h
  exact fin
  obtain rfl := Option.some.inj h
  exact fin
  obtain rfl := Option.some.inj h
  exact fin
  refine wgo ?_
  repeat refine cj ?_
  refine kIf2 h (fun hb h => ?_) (fun hb h => ?_)
  refine wgo ?_
  repeat refine cj ?_
  refine kIf2 h (fun hb h => ?_) (fun hb h => ?_)
  obtain rfl := Option.some.inj h
  exact fin
  obtain rfl := Option.some.inj h
  exact fin
  obtain rfl := Option.some.inj h
  exact fin
end Go.Ax

/- The walk of ledger_order, printed by gen.py. -/
set_option linter.unusedSimpArgs false
set_option linter.unusedVariables false
namespace Go.Ax
open Go Go.Proofs
set_option maxRecDepth 100000
set_option maxHeartbeats 4000000
theorem ledger_order.spec {a0 : Int} {a1 : Int} {a2 : api_Row} {r : Int} (h : ledger_order.f a0 a1 a2 = some r) : FSpec Try.prog 99 [(false, [.v (.int .i64 a0)]), (false, [.v (.int .i64 a1)]), (true, api_Row.D a2)] [.one (.d (.v (.int .i64 r)))] := by
  unfold ledger_order.f at h
  refine fspec_data mixed Try.func99 rfl (by decide) [0, 1, 2, 5, 6] (rs := [.tmp 6]) rfl (by decide) (n := 19) rfl (by simp) ?_
  refine wgo ?_
  repeat refine cj ?_
  refine kIf2 h (fun hb h => ?_) (fun hb h => ?_)
  obtain rfl := Option.some.inj h
  exact fin
  obtain rfl := Option.some.inj h
  exact fin
end Go.Ax

/- The walk of ledger_Right, printed by gen.py. -/
set_option linter.unusedSimpArgs false
set_option linter.unusedVariables false
namespace Go.Ax
open Go Go.Proofs
set_option maxRecDepth 100000
set_option maxHeartbeats 4000000
theorem ledger_Right.spec {a0 : List api_Row} {r : Bool} (h : ledger_Right.f a0 = some r) : FSpec Try.prog 35 [(false, [.l (rowsD api_Row.D a0)])] [.one (.d (.v (.bool r)))] := by
  unfold ledger_Right.f at h
  refine fspec_data mixed Try.func35 rfl (by decide) [0, 2, 3, 4, 5, 6, 7] (rs := [.tmp 2]) rfl (by decide) (n := 41) rfl (by simp) ?_
  refine wgo ?_
  repeat refine cj ?_
  obtain ⟨f0, h0, q0⟩ := bd h
  rw [aCode_loop]
  refine aLoop_fx (α := Nat × Int) (fun p => (⟨41, [], [(0, .one (.l (rowsD api_Row.D a0))), (2, .one (.v (.bool false))), (3, .none), (4, .none), (5, .one (.l (rowsD api_Row.D a0))), (6, .one (.v (.int .i64 (a0.length : Int)))), (7, .one (.v (.int .i64 p.2)))]⟩ : S)) (fun p => ledger_Right.l0 a0 p.1 p.2 = some f0) (fun p => p.1) (FUEL, 0) h0 ?_ ?_
  exact fxs
  rintro ⟨k0, x7_0⟩ h
  simp only at h
  obtain _ | k0 := k0
  exact absurd h (by simp [ledger_Right.l0])
  rw [ledger_Right.l0] at h
  refine wgo ?_
  repeat refine cj ?_
  refine kIf2 h (fun hb h => ?_) (fun hb h => ?_)
  obtain ⟨⟨hg3_1_0, hg3_1_1⟩, h⟩ := gd h
  refine wgo ?_
  repeat refine cj ?_
  obtain ⟨y4_4, hy4_4, h⟩ := bd h
  refine aCall_of (ledger_Key.spec hy4_4) ?_
  refine wgo ?_
  repeat refine cj ?_
  refine kIf3 h (fun hb h => ?_) (fun hb h => ?_)
  refine wgo ?_
  repeat refine cj ?_
  refine kIf3 h (fun hb h => ?_) (fun hb h => ?_)
  refine wgo ?_
  repeat refine cj ?_
  refine kIf2 h (fun hb h => ?_) (fun hb h => ?_)
  obtain ⟨⟨hg4_22_0, hg4_22_1⟩, h⟩ := gd h
  refine wgo ?_
  repeat refine cj ?_
  obtain ⟨y4_24, hy4_24, h⟩ := bd h
  have e := ledger_order.spec hy4_24
  try simp only [go_sem, List.map_set, rowsD_append, rowsD_cons, rowsD_nil, rowsD_set, rowsD_take, rowsD_drop, rowsD_replicate] at e
  refine aCall_of e ?_
  refine wgo ?_
  repeat refine cj ?_
  refine kIf2 h (fun hb h => ?_) (fun hb h => ?_)
  obtain rfl := Option.some.inj h
  have h := q0
  simp only [Flow.go_ret, Flow.goL_ret] at h
  obtain rfl := Option.some.inj h
  exact fin
  refine wgo ?_
  repeat refine cj ?_
  refine Round.fx (k0, IntKind.i64.wrap (x7_0 + 1)) h (Nat.lt_succ_self k0) ?_
  exact fxs
  refine wgo ?_
  repeat refine cj ?_
  refine Round.fx (k0, IntKind.i64.wrap (x7_0 + 1)) h (Nat.lt_succ_self k0) ?_
  exact fxs
  obtain rfl := Option.some.inj h
  have h := q0
  simp only [Flow.go_ret, Flow.goL_ret] at h
  obtain rfl := Option.some.inj h
  exact fin
  obtain rfl := Option.some.inj h
  have h := q0
  simp only [Flow.go_ret, Flow.goL_ret] at h
  obtain rfl := Option.some.inj h
  exact fin
  obtain rfl := Option.some.inj h
  have h := q0
  simp only [Flow.go_out, Flow.goL_out] at h
  try dsimp only at h
  obtain rfl := Option.some.inj h
  exact fin
end Go.Ax

/- The walk of slices_Clip_api_Row, printed by gen.py. -/
set_option linter.unusedSimpArgs false
set_option linter.unusedVariables false
namespace Go.Ax
open Go Go.Proofs
set_option maxRecDepth 100000
set_option maxHeartbeats 4000000
theorem slices_Clip_api_Row.spec {a0 : List api_Row} {r : (List api_Row)} (h : slices_Clip_api_Row.f a0 = some r) : FSpec Try.prog 134 [(false, [.l (rowsD api_Row.D a0)])] [.one (.d (.l (rowsD api_Row.D r)))] := by
  unfold slices_Clip_api_Row.f at h
  refine fspec_data mixed Try.func134 rfl (by decide) [0, 2] (rs := [.tmp 2]) rfl (by decide) (n := 9) rfl (by simp) ?_
  obtain ⟨⟨hg1_5_0, hg1_5_1, hg1_5_2, hg1_5_3⟩, h⟩ := gd h
  obtain rfl := Option.some.inj h
  exact fin
end Go.Ax

/- The walk of slices_Clone_api_Row, printed by gen.py. -/
set_option linter.unusedSimpArgs false
set_option linter.unusedVariables false
namespace Go.Ax
open Go Go.Proofs
set_option maxRecDepth 100000
set_option maxHeartbeats 4000000
theorem slices_Clone_api_Row.spec {a0 : List api_Row} {r : (List api_Row)} (h : slices_Clone_api_Row.f a0 = some r) : FSpec Try.prog 132 [(false, [.l (rowsD api_Row.D a0)])] [.one (.own 3 (rowsD api_Row.D r))] := by
  unfold slices_Clone_api_Row.f at h
  refine fspec_mix [true] mixed Try.func132 rfl (by decide) [0, 2] (rs := [.tmp 2]) rfl (by decide) (n := 8) rfl (by simp) ?_
  refine wgo ?_
  repeat refine cj ?_
  refine kNil_of ?_ (fun hb => ?_)
  replace h := nilT_f h
  obtain ⟨hg3_2, h⟩ := gd h
  obtain rfl := Option.some.inj h
  exact fin
  replace h := nilT_t h (rowsD_eq_nil _ hb)
  obtain rfl := Option.some.inj h
  exact fin
end Go.Ax

/- The walk of ledger_Post, printed by gen.py. -/
set_option linter.unusedSimpArgs false
set_option linter.unusedVariables false
namespace Go.Ax
open Go Go.Proofs
set_option maxRecDepth 100000
set_option maxHeartbeats 4000000
theorem ledger_Post.spec {a0 : List api_Row} {a1 : List api_Entry} {r : (List api_Row) × Int} (h : ledger_Post.f a0 a1 = some r) : FSpec Try.prog 98 [(false, [.l (rowsD api_Row.D a0)]), (false, [.l (rowsD api_Entry.D a1)])] [.one (.d (.l (rowsD api_Row.D r.1))), .one (.d (.v (.int .i64 r.2)))] := by
  unfold ledger_Post.f at h
  refine fspec_data mixed Try.func98 rfl (by decide) [0, 1, 4, 5, 6, 8, 9, 10, 11, 13, 14, 15, 17, 18, 20, 21, 22, 23, 24, 36, 37, 38, 68, 69, 70, 121, 122, 123, 131, 132, 133] (rs := [.tmp 4, .tmp 5]) rfl (by decide) (n := 185) rfl (by simp) ?_
  refine wgo ?_
  repeat refine cj ?_
  obtain ⟨y1_1, hy1_1, h⟩ := bd h
  refine aCall_of (ledger_Right.spec hy1_1) ?_
  refine wgo ?_
  repeat refine cj ?_
  refine kIf3 h (fun hb h => ?_) (fun hb h => ?_)
  refine wgo ?_
  repeat refine cj ?_
  refine kIf2 h (fun hb h => ?_) (fun hb h => ?_)
  obtain rfl := Option.some.inj h
  exact fin
  obtain ⟨⟨hg3_2_0, hg3_2_1⟩, h⟩ := gd h
  refine wgo ?_
  repeat refine cj ?_
  obtain ⟨f1, h1, q1⟩ := bd h
  rw [aCode_loop]
  refine aLoop_fx (α := Nat × (List Int) × Int) (fun p => (⟨185, [], [(0, .one (.l (rowsD api_Row.D a0))), (1, .one (.l (rowsD api_Entry.D a1))), (4, .own 3 (rowsD api_Row.D ([] : List api_Row))), (5, .one (.v (.int .i64 0))), (6, .own 2 (rowsD wD p.2.1)), (8, .none), (9, .none), (10, .none), (11, .none), (13, .none), (14, .none), (15, .none), (17, .none), (18, .none), (20, .none), (21, .none), (22, .none), (23, .none), (24, .none), (36, .one (.l (rowsD api_Entry.D a1))), (37, .one (.v (.int .i64 (a1.length : Int)))), (38, .one (.v (.int .i64 p.2.2))), (68, .none), (69, .none), (70, .none), (121, .none), (122, .none), (123, .none), (131, .none), (132, .none), (133, .none)]⟩ : S)) (fun p => ledger_Post.l0 a1 p.1 p.2.1 p.2.2 = some f1) (fun p => p.1) (FUEL, ([] : List Int), 0) h1 ?_ ?_
  exact fxs
  rintro ⟨k1, x6_1, x38_1⟩ h
  simp only at h
  obtain _ | k1 := k1
  exact absurd h (by simp [ledger_Post.l0])
  rw [ledger_Post.l0] at h
  refine wgo ?_
  repeat refine cj ?_
  refine kIf2 h (fun hb h => ?_) (fun hb h => ?_)
  obtain ⟨⟨hg6_0_0, hg6_0_1⟩, h⟩ := gd h
  refine wgo ?_
  repeat refine cj ?_
  obtain ⟨y7_4, hy7_4, h⟩ := bd h
  refine aCall_of (ledger_Key.spec hy7_4) ?_
  refine wgo ?_
  repeat refine cj ?_
  refine kIf2 h (fun hb h => ?_) (fun hb h => ?_)
  obtain rfl := Option.some.inj h
  have h := q1
  simp only [Flow.go_ret, Flow.goL_ret] at h
  obtain rfl := Option.some.inj h
  exact fin
  obtain ⟨hg9_4, h⟩ := gd h
  refine wgo ?_
  repeat refine cj ?_
  refine Round.fx (k1, x6_1 ++ ([(rd a1 x38_1).X]), IntKind.i64.wrap (x38_1 + 1)) h (Nat.lt_succ_self k1) ?_
  exact fxs
  obtain rfl := Option.some.inj h
  have h := q1
  simp only [Flow.go_out, Flow.goL_out] at h
  try dsimp only at h
  refine wgo ?_
  repeat refine cj ?_
  obtain ⟨y11_1, hy11_1, h⟩ := bd h
  refine aCall_of (wide_Sum.spec hy11_1) ?_
  refine wgo ?_
  repeat refine cj ?_
  refine kIf3 h (fun hb h => ?_) (fun hb h => ?_)
  refine wgo ?_
  repeat refine cj ?_
  obtain ⟨y12_4, hy12_4, h⟩ := bd h
  refine aCall_of (wide_Sign.spec hy12_4) ?_
  refine wgo ?_
  repeat refine cj ?_
  refine kIf2 h (fun hb h => ?_) (fun hb h => ?_)
  obtain rfl := Option.some.inj h
  exact fin
  refine wgo ?_
  repeat refine cj ?_
  obtain ⟨y14_1, hy14_1, h⟩ := bd h
  refine aCall_of (slices_Clone_api_Row.spec hy14_1) ?_
  refine wgo ?_
  repeat refine cj ?_
  obtain ⟨s5, h5, q5⟩ := bd h
  rw [aCode_loop]
  refine aLoop_fx (α := Nat × (List api_Row) × Int) (fun p => (⟨185, [], [(0, .one (.l (rowsD api_Row.D a0))), (1, .one (.l (rowsD api_Entry.D a1))), (4, .own 3 (rowsD api_Row.D ([] : List api_Row))), (5, .one (.v (.int .i64 0))), (6, .own 2 (rowsD wD x6_1)), (8, .none), (9, .box [.d (.v (.int .i64 (wHi y11_1.1))), .d (.v (.int .u64 (wLo y11_1.1)))]), (10, .one (.v (.bool y11_1.2))), (11, .own 3 (rowsD api_Row.D p.2.1)), (13, .none), (14, .none), (15, .none), (17, .none), (18, .none), (20, .none), (21, .none), (22, .none), (23, .none), (24, .none), (36, .one (.l (rowsD api_Entry.D a1))), (37, .one (.v (.int .i64 (a1.length : Int)))), (38, .one (.v (.int .i64 x38_1))), (68, .one (.l (rowsD api_Entry.D a1))), (69, .one (.v (.int .i64 (a1.length : Int)))), (70, .one (.v (.int .i64 p.2.2))), (121, .none), (122, .none), (123, .none), (131, .none), (132, .none), (133, .none)]⟩ : S)) (fun p => ledger_Post.l1 a1 p.1 p.2.1 p.2.2 = some s5) (fun p => p.1) (FUEL, y14_1, 0) h5 ?_ ?_
  exact fxs
  rintro ⟨k5, x11_5, x70_5⟩ h
  simp only at h
  obtain _ | k5 := k5
  exact absurd h (by simp [ledger_Post.l1])
  rw [ledger_Post.l1] at h
  refine wgo ?_
  repeat refine cj ?_
  refine kIf2 h (fun hb h => ?_) (fun hb h => ?_)
  obtain ⟨⟨hg17_0_0, hg17_0_1⟩, h⟩ := gd h
  refine wgo ?_
  repeat refine cj ?_
  obtain ⟨s7, h7, q7⟩ := bd h
  rw [aCode_loop]
  refine aLoop_fx (α := Nat × Int) (fun p => (⟨185, [], [(0, .one (.l (rowsD api_Row.D a0))), (1, .one (.l (rowsD api_Entry.D a1))), (4, .own 3 (rowsD api_Row.D ([] : List api_Row))), (5, .one (.v (.int .i64 0))), (6, .own 2 (rowsD wD x6_1)), (8, .none), (9, .box [.d (.v (.int .i64 (wHi y11_1.1))), .d (.v (.int .u64 (wLo y11_1.1)))]), (10, .one (.v (.bool y11_1.2))), (11, .own 3 (rowsD api_Row.D x11_5)), (13, .box [.d (.v (.int .i64 (rd a1 x70_5).Kind)), .d (.v (.int .i64 (rd a1 x70_5).N)), .d (.v (.int .i64 (wHi (rd a1 x70_5).X))), .d (.v (.int .u64 (wLo (rd a1 x70_5).X)))]), (14, .one (.v (.int .i64 p.2))), (15, .none), (17, .none), (18, .none), (20, .none), (21, .none), (22, .none), (23, .none), (24, .none), (36, .one (.l (rowsD api_Entry.D a1))), (37, .one (.v (.int .i64 (a1.length : Int)))), (38, .one (.v (.int .i64 x38_1))), (68, .one (.l (rowsD api_Entry.D a1))), (69, .one (.v (.int .i64 (a1.length : Int)))), (70, .one (.v (.int .i64 x70_5))), (121, .none), (122, .none), (123, .none), (131, .none), (132, .none), (133, .none)]⟩ : S)) (fun p => ledger_Post.l2 a1 x11_5 x70_5 p.1 p.2 = some s7) (fun p => p.1) (FUEL, 0) h7 ?_ ?_
  exact fxs
  rintro ⟨k7, x14_7⟩ h
  simp only at h
  obtain _ | k7 := k7
  exact absurd h (by simp [ledger_Post.l2])
  rw [ledger_Post.l2] at h
  refine wgo ?_
  repeat refine cj ?_
  refine kIf2 h (fun hb h => ?_) (fun hb h => ?_)
  obtain ⟨⟨hg19_11_0, hg19_11_1⟩, h⟩ := gd h
  have hr0 := fun z => rd_in api_Row.D x11_5 (i := x14_7) z (by omega) (by omega)
  try simp (maxSteps := 2000000) only [go_sem, p_kSeq, ↓reduceIte, reduceCtorEq, Nat.reduceLT, Nat.reduceLeDiff, Nat.reduceEqDiff, Nat.reduceMul, Nat.reduceAdd, Nat.reduceSub, Int.reduceLE, Int.reduceLT, hr0]
  repeat refine cj ?_
  obtain ⟨y19_13, hy19_13, h⟩ := bd h
  have e := ledger_order.spec hy19_13
  try simp only [go_sem, List.map_set, rowsD_append, rowsD_cons, rowsD_nil, rowsD_set, rowsD_take, rowsD_drop, rowsD_replicate] at e
  refine aCall_of e ?_
  try simp (maxSteps := 2000000) only [go_sem, p_kSeq, ↓reduceIte, reduceCtorEq, Nat.reduceLT, Nat.reduceLeDiff, Nat.reduceEqDiff, Nat.reduceMul, Nat.reduceAdd, Nat.reduceSub, Int.reduceLE, Int.reduceLT, hr0]
  repeat refine cj ?_
  refine kIf2 h (fun hb h => ?_) (fun hb h => ?_)
  try simp (maxSteps := 2000000) only [go_sem, p_kSeq, ↓reduceIte, reduceCtorEq, Nat.reduceLT, Nat.reduceLeDiff, Nat.reduceEqDiff, Nat.reduceMul, Nat.reduceAdd, Nat.reduceSub, Int.reduceLE, Int.reduceLT, hr0]
  repeat refine cj ?_
  refine Round.fx (k7, IntKind.i64.wrap (x14_7 + 1)) h (Nat.lt_succ_self k7) ?_
  exact fxs
  obtain rfl := Option.some.inj h
  have h := q7
  try dsimp only at h
  try simp (maxSteps := 2000000) only [go_sem, p_kSeq, ↓reduceIte, reduceCtorEq, Nat.reduceLT, Nat.reduceLeDiff, Nat.reduceEqDiff, Nat.reduceMul, Nat.reduceAdd, Nat.reduceSub, Int.reduceLE, Int.reduceLT, hr0]
  repeat refine cj ?_
  refine kIf3 h (fun hb h => ?_) (fun hb h => ?_)
  obtain ⟨⟨hg21_11_0, hg21_11_1⟩, h⟩ := gd h
  have hr1 := fun z => rd_in api_Row.D x11_5 (i := x14_7) z (by omega) (by omega)
  try simp (maxSteps := 2000000) only [go_sem, p_kSeq, ↓reduceIte, reduceCtorEq, Nat.reduceLT, Nat.reduceLeDiff, Nat.reduceEqDiff, Nat.reduceMul, Nat.reduceAdd, Nat.reduceSub, Int.reduceLE, Int.reduceLT, hr0, hr1]
  repeat refine cj ?_
  obtain ⟨y21_13, hy21_13, h⟩ := bd h
  have e := ledger_order.spec hy21_13
  try simp only [go_sem, List.map_set, rowsD_append, rowsD_cons, rowsD_nil, rowsD_set, rowsD_take, rowsD_drop, rowsD_replicate] at e
  refine aCall_of e ?_
  try simp (maxSteps := 2000000) only [go_sem, p_kSeq, ↓reduceIte, reduceCtorEq, Nat.reduceLT, Nat.reduceLeDiff, Nat.reduceEqDiff, Nat.reduceMul, Nat.reduceAdd, Nat.reduceSub, Int.reduceLE, Int.reduceLT, hr0, hr1]
  repeat refine cj ?_
  refine kIf2 h (fun hb h => ?_) (fun hb h => ?_)
  try simp (maxSteps := 2000000) only [go_sem, p_kSeq, ↓reduceIte, reduceCtorEq, Nat.reduceLT, Nat.reduceLeDiff, Nat.reduceEqDiff, Nat.reduceMul, Nat.reduceAdd, Nat.reduceSub, Int.reduceLE, Int.reduceLT, hr0, hr1]
  repeat refine cj ?_
  obtain ⟨y22_8, hy22_8, h⟩ := bd h
  have e := slices_Insert_api_Row.spec hy22_8
  try simp only [go_sem, List.map_set, rowsD_append, rowsD_cons, rowsD_nil, rowsD_set, rowsD_take, rowsD_drop, rowsD_replicate] at e
  refine aCall_x <| xCall_of [] e ?_
  try simp (maxSteps := 2000000) only [go_sem, p_kSeq, ↓reduceIte, reduceCtorEq, Nat.reduceLT, Nat.reduceLeDiff, Nat.reduceEqDiff, Nat.reduceMul, Nat.reduceAdd, Nat.reduceSub, Int.reduceLE, Int.reduceLT, hr0, hr1]
  repeat refine cj ?_
  refine Round.fx (k5, y22_8, IntKind.i64.wrap (x70_5 + 1)) h (Nat.lt_succ_self k5) ?_
  exact fxs
  try simp (maxSteps := 2000000) only [go_sem, p_kSeq, ↓reduceIte, reduceCtorEq, Nat.reduceLT, Nat.reduceLeDiff, Nat.reduceEqDiff, Nat.reduceMul, Nat.reduceAdd, Nat.reduceSub, Int.reduceLE, Int.reduceLT, hr0, hr1]
  repeat refine cj ?_
  refine Round.fx (k5, x11_5, IntKind.i64.wrap (x70_5 + 1)) h (Nat.lt_succ_self k5) ?_
  exact fxs
  try simp (maxSteps := 2000000) only [go_sem, p_kSeq, ↓reduceIte, reduceCtorEq, Nat.reduceLT, Nat.reduceLeDiff, Nat.reduceEqDiff, Nat.reduceMul, Nat.reduceAdd, Nat.reduceSub, Int.reduceLE, Int.reduceLT, hr0]
  repeat refine cj ?_
  obtain ⟨y22_8, hy22_8, h⟩ := bd h
  have e := slices_Insert_api_Row.spec hy22_8
  try simp only [go_sem, List.map_set, rowsD_append, rowsD_cons, rowsD_nil, rowsD_set, rowsD_take, rowsD_drop, rowsD_replicate] at e
  refine aCall_x <| xCall_of [] e ?_
  try simp (maxSteps := 2000000) only [go_sem, p_kSeq, ↓reduceIte, reduceCtorEq, Nat.reduceLT, Nat.reduceLeDiff, Nat.reduceEqDiff, Nat.reduceMul, Nat.reduceAdd, Nat.reduceSub, Int.reduceLE, Int.reduceLT, hr0]
  repeat refine cj ?_
  refine Round.fx (k5, y22_8, IntKind.i64.wrap (x70_5 + 1)) h (Nat.lt_succ_self k5) ?_
  exact fxs
  obtain rfl := Option.some.inj h
  have h := q7
  try dsimp only at h
  refine wgo ?_
  repeat refine cj ?_
  refine kIf3 h (fun hb h => ?_) (fun hb h => ?_)
  obtain ⟨⟨hg21_11_0, hg21_11_1⟩, h⟩ := gd h
  have hr0 := fun z => rd_in api_Row.D x11_5 (i := x14_7) z (by omega) (by omega)
  try simp (maxSteps := 2000000) only [go_sem, p_kSeq, ↓reduceIte, reduceCtorEq, Nat.reduceLT, Nat.reduceLeDiff, Nat.reduceEqDiff, Nat.reduceMul, Nat.reduceAdd, Nat.reduceSub, Int.reduceLE, Int.reduceLT, hr0]
  repeat refine cj ?_
  obtain ⟨y21_13, hy21_13, h⟩ := bd h
  have e := ledger_order.spec hy21_13
  try simp only [go_sem, List.map_set, rowsD_append, rowsD_cons, rowsD_nil, rowsD_set, rowsD_take, rowsD_drop, rowsD_replicate] at e
  refine aCall_of e ?_
  try simp (maxSteps := 2000000) only [go_sem, p_kSeq, ↓reduceIte, reduceCtorEq, Nat.reduceLT, Nat.reduceLeDiff, Nat.reduceEqDiff, Nat.reduceMul, Nat.reduceAdd, Nat.reduceSub, Int.reduceLE, Int.reduceLT, hr0]
  repeat refine cj ?_
  refine kIf2 h (fun hb h => ?_) (fun hb h => ?_)
  try simp (maxSteps := 2000000) only [go_sem, p_kSeq, ↓reduceIte, reduceCtorEq, Nat.reduceLT, Nat.reduceLeDiff, Nat.reduceEqDiff, Nat.reduceMul, Nat.reduceAdd, Nat.reduceSub, Int.reduceLE, Int.reduceLT, hr0]
  repeat refine cj ?_
  obtain ⟨y22_8, hy22_8, h⟩ := bd h
  have e := slices_Insert_api_Row.spec hy22_8
  try simp only [go_sem, List.map_set, rowsD_append, rowsD_cons, rowsD_nil, rowsD_set, rowsD_take, rowsD_drop, rowsD_replicate] at e
  refine aCall_x <| xCall_of [] e ?_
  try simp (maxSteps := 2000000) only [go_sem, p_kSeq, ↓reduceIte, reduceCtorEq, Nat.reduceLT, Nat.reduceLeDiff, Nat.reduceEqDiff, Nat.reduceMul, Nat.reduceAdd, Nat.reduceSub, Int.reduceLE, Int.reduceLT, hr0]
  repeat refine cj ?_
  refine Round.fx (k5, y22_8, IntKind.i64.wrap (x70_5 + 1)) h (Nat.lt_succ_self k5) ?_
  exact fxs
  try simp (maxSteps := 2000000) only [go_sem, p_kSeq, ↓reduceIte, reduceCtorEq, Nat.reduceLT, Nat.reduceLeDiff, Nat.reduceEqDiff, Nat.reduceMul, Nat.reduceAdd, Nat.reduceSub, Int.reduceLE, Int.reduceLT, hr0]
  repeat refine cj ?_
  refine Round.fx (k5, x11_5, IntKind.i64.wrap (x70_5 + 1)) h (Nat.lt_succ_self k5) ?_
  exact fxs
  refine wgo ?_
  repeat refine cj ?_
  obtain ⟨y22_8, hy22_8, h⟩ := bd h
  have e := slices_Insert_api_Row.spec hy22_8
  try simp only [go_sem, List.map_set, rowsD_append, rowsD_cons, rowsD_nil, rowsD_set, rowsD_take, rowsD_drop, rowsD_replicate] at e
  refine aCall_x <| xCall_of [] e ?_
  refine wgo ?_
  repeat refine cj ?_
  refine Round.fx (k5, y22_8, IntKind.i64.wrap (x70_5 + 1)) h (Nat.lt_succ_self k5) ?_
  exact fxs
  obtain rfl := Option.some.inj h
  have h := q5
  try dsimp only at h
  obtain ⟨⟨hg24_2_0, hg24_2_1⟩, h⟩ := gd h
  refine wgo ?_
  repeat refine cj ?_
  obtain ⟨f10, h10, q10⟩ := bd h
  rw [aCode_loop]
  refine aLoop_fx (α := Nat × (List api_Row) × Int) (fun p => (⟨185, [], [(0, .one (.l (rowsD api_Row.D a0))), (1, .one (.l (rowsD api_Entry.D a1))), (4, .own 3 (rowsD api_Row.D ([] : List api_Row))), (5, .one (.v (.int .i64 0))), (6, .own 2 (rowsD wD x6_1)), (8, .none), (9, .box [.d (.v (.int .i64 (wHi y11_1.1))), .d (.v (.int .u64 (wLo y11_1.1)))]), (10, .one (.v (.bool y11_1.2))), (11, .one (.l (rowsD api_Row.D x11_5))), (13, .none), (14, .none), (15, .own 3 (rowsD api_Row.D p.2.1)), (17, .none), (18, .none), (20, .none), (21, .none), (22, .none), (23, .none), (24, .none), (36, .one (.l (rowsD api_Entry.D a1))), (37, .one (.v (.int .i64 (a1.length : Int)))), (38, .one (.v (.int .i64 x38_1))), (68, .one (.l (rowsD api_Entry.D a1))), (69, .one (.v (.int .i64 (a1.length : Int)))), (70, .one (.v (.int .i64 x70_5))), (121, .one (.l (rowsD api_Row.D x11_5))), (122, .one (.v (.int .i64 (x11_5.length : Int)))), (123, .one (.v (.int .i64 p.2.2))), (131, .none), (132, .none), (133, .none)]⟩ : S)) (fun p => ledger_Post.l3 a1 (x11_5, x70_5) p.1 p.2.1 p.2.2 = some f10) (fun p => p.1) (FUEL, ([] : List api_Row), 0) h10 ?_ ?_
  exact fxs
  rintro ⟨k10, x15_10, x123_10⟩ h
  simp only at h
  obtain _ | k10 := k10
  exact absurd h (by simp [ledger_Post.l3])
  rw [ledger_Post.l3] at h
  try dsimp only at h
  refine wgo ?_
  repeat refine cj ?_
  refine kIf2 h (fun hb h => ?_) (fun hb h => ?_)
  obtain ⟨⟨hg27_0_0, hg27_0_1⟩, h⟩ := gd h
  refine wgo ?_
  repeat refine cj ?_
  obtain ⟨y28_2, hy28_2, h⟩ := bd h
  refine aCall_of (wide_Of.spec hy28_2) ?_
  refine wgo ?_
  repeat refine cj ?_
  obtain ⟨s12, h12, q12⟩ := bd h
  rw [aCode_loop]
  refine aLoop_fx (α := Nat × (List Int) × Int) (fun p => (⟨185, [], [(0, .one (.l (rowsD api_Row.D a0))), (1, .one (.l (rowsD api_Entry.D a1))), (4, .own 3 (rowsD api_Row.D ([] : List api_Row))), (5, .one (.v (.int .i64 0))), (6, .own 2 (rowsD wD x6_1)), (8, .none), (9, .box [.d (.v (.int .i64 (wHi y11_1.1))), .d (.v (.int .u64 (wLo y11_1.1)))]), (10, .one (.v (.bool y11_1.2))), (11, .one (.l (rowsD api_Row.D x11_5))), (13, .none), (14, .none), (15, .own 3 (rowsD api_Row.D x15_10)), (17, .box [.d (.v (.int .i64 (rd x11_5 x123_10).Kind)), .d (.v (.int .i64 (rd x11_5 x123_10).N)), .d (.v (.int .i64 (rd x11_5 x123_10).Sum))]), (18, .own 2 (rowsD wD p.2.1)), (20, .none), (21, .none), (22, .none), (23, .none), (24, .none), (36, .one (.l (rowsD api_Entry.D a1))), (37, .one (.v (.int .i64 (a1.length : Int)))), (38, .one (.v (.int .i64 x38_1))), (68, .one (.l (rowsD api_Entry.D a1))), (69, .one (.v (.int .i64 (a1.length : Int)))), (70, .one (.v (.int .i64 x70_5))), (121, .one (.l (rowsD api_Row.D x11_5))), (122, .one (.v (.int .i64 (x11_5.length : Int)))), (123, .one (.v (.int .i64 x123_10))), (131, .one (.l (rowsD api_Entry.D a1))), (132, .one (.v (.int .i64 (a1.length : Int)))), (133, .one (.v (.int .i64 p.2.2)))]⟩ : S)) (fun p => ledger_Post.l4 a1 (x11_5, x70_5) x123_10 p.1 p.2.1 p.2.2 = some s12) (fun p => p.1) (FUEL, [y28_2], 0) h12 ?_ ?_
  exact fxs
  rintro ⟨k12, x18_12, x133_12⟩ h
  simp only at h
  obtain _ | k12 := k12
  exact absurd h (by simp [ledger_Post.l4])
  rw [ledger_Post.l4] at h
  try dsimp only at h
  refine wgo ?_
  repeat refine cj ?_
  refine kIf2 h (fun hb h => ?_) (fun hb h => ?_)
  obtain ⟨⟨hg31_0_0, hg31_0_1⟩, h⟩ := gd h
  refine wgo ?_
  repeat refine cj ?_
  refine kIf2 h (fun hb h => ?_) (fun hb h => ?_)
  refine wgo ?_
  repeat refine cj ?_
  refine kIf2 h (fun hb h => ?_) (fun hb h => ?_)
  obtain ⟨hg33_4, h⟩ := gd h
  refine wgo ?_
  repeat refine cj ?_
  refine Round.fx (k12, x18_12 ++ ([(rd a1 x133_12).X]), IntKind.i64.wrap (x133_12 + 1)) h (Nat.lt_succ_self k12) ?_
  exact fxs
  refine wgo ?_
  repeat refine cj ?_
  refine Round.fx (k12, x18_12, IntKind.i64.wrap (x133_12 + 1)) h (Nat.lt_succ_self k12) ?_
  exact fxs
  refine wgo ?_
  repeat refine cj ?_
  refine Round.fx (k12, x18_12, IntKind.i64.wrap (x133_12 + 1)) h (Nat.lt_succ_self k12) ?_
  exact fxs
  obtain rfl := Option.some.inj h
  have h := q12
  try dsimp only at h
  refine wgo ?_
  repeat refine cj ?_
  obtain ⟨y35_1, hy35_1, h⟩ := bd h
  refine aCall_of (wide_Sum.spec hy35_1) ?_
  refine wgo ?_
  repeat refine cj ?_
  obtain ⟨y36_1, hy36_1, h⟩ := bd h
  refine aCall_of (wide_Int.spec hy36_1) ?_
  refine wgo ?_
  repeat refine cj ?_
  refine kIf3 h (fun hb h => ?_) (fun hb h => ?_)
  refine wgo ?_
  repeat refine cj ?_
  refine kIf2 h (fun hb h => ?_) (fun hb h => ?_)
  obtain rfl := Option.some.inj h
  have h := q10
  simp only [Flow.go_ret, Flow.goL_ret] at h
  obtain rfl := Option.some.inj h
  exact fin
  refine wgo ?_
  repeat refine cj ?_
  refine kIf2 h (fun hb h => ?_) (fun hb h => ?_)
  obtain ⟨hg40_8, h⟩ := gd h
  refine wgo ?_
  repeat refine cj ?_
  refine Round.fx (k10, x15_10 ++ ([({ (rd x11_5 x123_10) with Sum := y36_1.1 } : api_Row)]), IntKind.i64.wrap (x123_10 + 1)) h (Nat.lt_succ_self k10) ?_
  exact fxs
  refine wgo ?_
  repeat refine cj ?_
  refine Round.fx (k10, x15_10, IntKind.i64.wrap (x123_10 + 1)) h (Nat.lt_succ_self k10) ?_
  exact fxs
  obtain rfl := Option.some.inj h
  have h := q10
  simp only [Flow.go_ret, Flow.goL_ret] at h
  obtain rfl := Option.some.inj h
  exact fin
  obtain rfl := Option.some.inj h
  have h := q10
  simp only [Flow.go_out, Flow.goL_out] at h
  try dsimp only at h
  refine wgo ?_
  repeat refine cj ?_
  obtain ⟨y42_1, hy42_1, h⟩ := bd h
  refine aCall_of (slices_Clip_api_Row.spec hy42_1) ?_
  obtain rfl := Option.some.inj h
  exact fin
  obtain rfl := Option.some.inj h
  exact fin
  obtain rfl := Option.some.inj h
  exact fin
end Go.Ax

/- The walk of ledger_Move, printed by gen.py. -/
set_option linter.unusedSimpArgs false
set_option linter.unusedVariables false
namespace Go.Ax
open Go Go.Proofs
set_option maxRecDepth 100000
set_option maxHeartbeats 4000000
theorem ledger_Move.spec {a0 : List api_Row} {a1 : api_Row} {a2 : api_Row} {a3 : Int} {r : (List api_Row) × Int} (h : ledger_Move.f a0 a1 a2 a3 = some r) : FSpec Try.prog 42 [(false, [.l (rowsD api_Row.D a0)]), (true, api_Row.D a1), (true, api_Row.D a2), (false, [.v (.int .i64 a3)])] [.one (.d (.l (rowsD api_Row.D r.1))), .one (.d (.v (.int .i64 r.2)))] := by
  unfold ledger_Move.f at h
  refine fspec_data mixed Try.func42 rfl (by decide) [0, 1, 2, 3, 5, 6, 8, 9, 10, 11] (rs := [.tmp 8, .tmp 9]) rfl (by decide) (n := 37) rfl (by simp) ?_
  refine wgo ?_
  repeat refine cj ?_
  obtain ⟨y1_1, hy1_1, h⟩ := bd h
  refine aCall_of (wide_Of.spec hy1_1) ?_
  refine wgo ?_
  repeat refine cj ?_
  obtain ⟨y2_1, hy2_1, h⟩ := bd h
  refine aCall_of (wide_Neg.spec hy2_1) ?_
  refine wgo ?_
  repeat refine cj ?_
  obtain ⟨y3_14, hy3_14, h⟩ := bd h
  have e := ledger_Post.spec hy3_14
  try simp only [go_sem, List.map_set, rowsD_append, rowsD_cons, rowsD_nil, rowsD_set, rowsD_take, rowsD_drop, rowsD_replicate] at e
  refine aCall_of e ?_
  obtain rfl := Option.some.inj h
  exact fin
end Go.Ax

/- The walk of novationhelp_Rows, printed by gen.py. -/
set_option linter.unusedSimpArgs false
set_option linter.unusedVariables false
namespace Go.Ax
open Go Go.Proofs
set_option maxRecDepth 100000
set_option maxHeartbeats 4000000
theorem novationhelp_Rows.spec {a0 : List api_Row} {a1 : List api_Row} {r : Bool} (h : novationhelp_Rows.f a0 a1 = some r) : FSpec Try.prog 44 [(false, [.l (rowsD api_Row.D a0)]), (false, [.l (rowsD api_Row.D a1)])] [.one (.d (.v (.bool r)))] := by
  unfold novationhelp_Rows.f at h
  refine fspec_data mixed Try.func44 rfl (by decide) [0, 1, 4, 5] (rs := [.tmp 4]) rfl (by decide) (n := 26) rfl (by simp) ?_
  refine wgo ?_
  repeat refine cj ?_
  refine kIf2 h (fun hb h => ?_) (fun hb h => ?_)
  obtain rfl := Option.some.inj h
  exact fin
  refine wgo ?_
  repeat refine cj ?_
  obtain ⟨f1, h1, q1⟩ := bd h
  rw [aCode_loop]
  refine aLoop_fx (α := Nat × Int) (fun p => (⟨26, [], [(0, .one (.l (rowsD api_Row.D a0))), (1, .one (.l (rowsD api_Row.D a1))), (4, .one (.v (.bool false))), (5, .one (.v (.int .i64 p.2)))]⟩ : S)) (fun p => novationhelp_Rows.l0 a0 a1 p.1 p.2 = some f1) (fun p => p.1) (FUEL, 0) h1 ?_ ?_
  exact fxs
  rintro ⟨k1, x5_1⟩ h
  simp only at h
  obtain _ | k1 := k1
  exact absurd h (by simp [novationhelp_Rows.l0])
  rw [novationhelp_Rows.l0] at h
  refine wgo ?_
  repeat refine cj ?_
  refine kIf2 h (fun hb h => ?_) (fun hb h => ?_)
  obtain ⟨⟨hg6_2_0, hg6_2_1⟩, h⟩ := gd h
  obtain ⟨⟨hg6_6_0, hg6_6_1⟩, h⟩ := gd h
  refine wgo ?_
  repeat refine cj ?_
  refine kIf2 h (fun hb h => ?_) (fun hb h => ?_)
  obtain rfl := Option.some.inj h
  have h := q1
  simp only [Flow.go_ret, Flow.goL_ret] at h
  obtain rfl := Option.some.inj h
  exact fin
  refine wgo ?_
  repeat refine cj ?_
  refine Round.fx (k1, IntKind.i64.wrap (x5_1 + 1)) h (Nat.lt_succ_self k1) ?_
  exact fxs
  obtain rfl := Option.some.inj h
  have h := q1
  simp only [Flow.go_out, Flow.goL_out] at h
  try dsimp only at h
  obtain rfl := Option.some.inj h
  exact fin
end Go.Ax

/- The walk of ledger_Get, printed by gen.py. -/
set_option linter.unusedSimpArgs false
set_option linter.unusedVariables false
namespace Go.Ax
open Go Go.Proofs
set_option maxRecDepth 100000
set_option maxHeartbeats 4000000
theorem ledger_Get.spec {a0 : List api_Row} {a1 : Int} {a2 : Int} {r : Int} (h : ledger_Get.f a0 a1 a2 = some r) : FSpec Try.prog 37 [(false, [.l (rowsD api_Row.D a0)]), (false, [.v (.int .i64 a1)]), (false, [.v (.int .i64 a2)])] [.one (.d (.v (.int .i64 r)))] := by
  unfold ledger_Get.f at h
  refine fspec_data mixed Try.func37 rfl (by decide) [0, 1, 2, 6, 8, 12, 13, 14] (rs := [.tmp 6]) rfl (by decide) (n := 31) rfl (by simp) ?_
  refine wgo ?_
  repeat refine cj ?_
  obtain ⟨y1_1, hy1_1, h⟩ := bd h
  refine aCall_of (ledger_Right.spec hy1_1) ?_
  refine wgo ?_
  repeat refine cj ?_
  refine kIf2 h (fun hb h => ?_) (fun hb h => ?_)
  obtain rfl := Option.some.inj h
  exact fin
  refine wgo ?_
  repeat refine cj ?_
  obtain ⟨f1, h1, q1⟩ := bd h
  rw [aCode_loop]
  refine aLoop_fx (α := Nat × Int) (fun p => (⟨31, [], [(0, .one (.l (rowsD api_Row.D a0))), (1, .one (.v (.int .i64 a1))), (2, .one (.v (.int .i64 a2))), (6, .one (.v (.int .i64 0))), (8, .none), (12, .one (.l (rowsD api_Row.D a0))), (13, .one (.v (.int .i64 (a0.length : Int)))), (14, .one (.v (.int .i64 p.2)))]⟩ : S)) (fun p => ledger_Get.l0 a0 a1 a2 p.1 p.2 = some f1) (fun p => p.1) (FUEL, 0) h1 ?_ ?_
  exact fxs
  rintro ⟨k1, x14_1⟩ h
  simp only at h
  obtain _ | k1 := k1
  exact absurd h (by simp [ledger_Get.l0])
  rw [ledger_Get.l0] at h
  refine wgo ?_
  repeat refine cj ?_
  refine kIf2 h (fun hb h => ?_) (fun hb h => ?_)
  obtain ⟨⟨hg5_0_0, hg5_0_1⟩, h⟩ := gd h
  refine wgo ?_
  repeat refine cj ?_
  refine kIf2 h (fun hb h => ?_) (fun hb h => ?_)
  refine wgo ?_
  repeat refine cj ?_
  refine kIf2 h (fun hb h => ?_) (fun hb h => ?_)
  obtain rfl := Option.some.inj h
  have h := q1
  simp only [Flow.go_ret, Flow.goL_ret] at h
  obtain rfl := Option.some.inj h
  exact fin
  refine wgo ?_
  repeat refine cj ?_
  refine Round.fx (k1, IntKind.i64.wrap (x14_1 + 1)) h (Nat.lt_succ_self k1) ?_
  exact fxs
  refine wgo ?_
  repeat refine cj ?_
  refine Round.fx (k1, IntKind.i64.wrap (x14_1 + 1)) h (Nat.lt_succ_self k1) ?_
  exact fxs
  obtain rfl := Option.some.inj h
  have h := q1
  simp only [Flow.go_out, Flow.goL_out] at h
  try dsimp only at h
  obtain rfl := Option.some.inj h
  exact fin
end Go.Ax

/- The walk of ledger_Total, printed by gen.py. -/
set_option linter.unusedSimpArgs false
set_option linter.unusedVariables false
namespace Go.Ax
open Go Go.Proofs
set_option maxRecDepth 100000
set_option maxHeartbeats 4000000
theorem ledger_Total.spec {a0 : List api_Row} {r : Int} (h : ledger_Total.f a0 = some r) : FSpec Try.prog 40 [(false, [.l (rowsD api_Row.D a0)])] [.agg (wD r)] := by
  unfold ledger_Total.f at h
  refine fspec_data mixed Try.func40 rfl (by decide) [0, 2, 3, 5, 6, 12, 13, 14] (rs := [.cell 2 59]) rfl (by decide) (n := 31) rfl (by simp) ?_
  refine wgo ?_
  repeat refine cj ?_
  obtain ⟨y1_1, hy1_1, h⟩ := bd h
  refine aCall_of (ledger_Right.spec hy1_1) ?_
  refine wgo ?_
  repeat refine cj ?_
  refine kIf2 h (fun hb h => ?_) (fun hb h => ?_)
  obtain rfl := Option.some.inj h
  exact fin
  refine wgo ?_
  repeat refine cj ?_
  obtain ⟨s1, h1, q1⟩ := bd h
  rw [aCode_loop]
  refine aLoop_fx (α := Nat × (List Int) × Int) (fun p => (⟨31, [], [(0, .one (.l (rowsD api_Row.D a0))), (2, .box [.d (.v (.int .i64 (wHi 0))), .d (.v (.int .u64 (wLo 0)))]), (3, .own 2 (rowsD wD p.2.1)), (5, .none), (6, .none), (12, .one (.l (rowsD api_Row.D a0))), (13, .one (.v (.int .i64 (a0.length : Int)))), (14, .one (.v (.int .i64 p.2.2)))]⟩ : S)) (fun p => ledger_Total.l0 a0 p.1 p.2.1 p.2.2 = some s1) (fun p => p.1) (FUEL, ([] : List Int), 0) h1 ?_ ?_
  exact fxs
  rintro ⟨k1, x3_1, x14_1⟩ h
  simp only at h
  obtain _ | k1 := k1
  exact absurd h (by simp [ledger_Total.l0])
  rw [ledger_Total.l0] at h
  refine wgo ?_
  repeat refine cj ?_
  refine kIf2 h (fun hb h => ?_) (fun hb h => ?_)
  obtain ⟨⟨hg6_0_0, hg6_0_1⟩, h⟩ := gd h
  refine wgo ?_
  repeat refine cj ?_
  obtain ⟨y7_3, hy7_3, h⟩ := bd h
  refine aCall_of (wide_Of.spec hy7_3) ?_
  obtain ⟨hg7_5, h⟩ := gd h
  refine wgo ?_
  repeat refine cj ?_
  refine Round.fx (k1, x3_1 ++ ([y7_3]), IntKind.i64.wrap (x14_1 + 1)) h (Nat.lt_succ_self k1) ?_
  exact fxs
  obtain rfl := Option.some.inj h
  have h := q1
  try dsimp only at h
  refine wgo ?_
  repeat refine cj ?_
  obtain ⟨y9_1, hy9_1, h⟩ := bd h
  refine aCall_of (wide_Sum.spec hy9_1) ?_
  obtain rfl := Option.some.inj h
  exact fin
end Go.Ax

/- The walk of novationlaw12_known, printed by gen.py. -/
set_option linter.unusedSimpArgs false
set_option linter.unusedVariables false
namespace Go.Ax
open Go Go.Proofs
set_option maxRecDepth 100000
set_option maxHeartbeats 4000000
theorem novationlaw12_known.spec {r : Bool} (h : novationlaw12_known.f = some r) : FSpec Try.prog 32 [] [.one (.d (.v (.bool r)))] := by
  unfold novationlaw12_known.f at h
  refine fspec_data mixed Try.func32 rfl (by decide) [0, 1, 2, 3, 4, 6] (rs := [.tmp 0]) rfl (by decide) (n := 75) rfl (by simp) ?_
  refine wgo ?_
  repeat refine cj ?_
  obtain ⟨y1_2, hy1_2, h⟩ := bd h
  refine aCall_of (ledger_Move.spec hy1_2) ?_
  refine wgo ?_
  repeat refine cj ?_
  obtain ⟨y2_1, hy2_1, h⟩ := bd h
  refine aCall_of (wide_Of.spec hy2_1) ?_
  refine wgo ?_
  repeat refine cj ?_
  obtain ⟨y2_3, hy2_3, h⟩ := bd h
  refine aCall_of (wide_Of.spec hy2_3) ?_
  refine wgo ?_
  repeat refine cj ?_
  obtain ⟨y2_6, hy2_6, h⟩ := bd h
  have e := ledger_Post.spec hy2_6
  try simp only [go_sem, List.map_set, rowsD_append, rowsD_cons, rowsD_nil, rowsD_set, rowsD_take, rowsD_drop, rowsD_replicate] at e
  refine aCall_of e ?_
  refine wgo ?_
  repeat refine cj ?_
  obtain ⟨y3_1, hy3_1, h⟩ := bd h
  refine aCall_of (wide_Of.spec hy3_1) ?_
  refine wgo ?_
  repeat refine cj ?_
  obtain ⟨y3_4, hy3_4, h⟩ := bd h
  have e := ledger_Post.spec hy3_4
  try simp only [go_sem, List.map_set, rowsD_append, rowsD_cons, rowsD_nil, rowsD_set, rowsD_take, rowsD_drop, rowsD_replicate] at e
  refine aCall_of e ?_
  refine wgo ?_
  repeat refine cj ?_
  refine kIf2 h (fun hb h => ?_) (fun hb h => ?_)
  refine wgo ?_
  repeat refine cj ?_
  obtain ⟨y4_7, hy4_7, h⟩ := bd h
  have e := novationhelp_Rows.spec hy4_7
  try simp only [go_sem, List.map_set, rowsD_append, rowsD_cons, rowsD_nil, rowsD_set, rowsD_take, rowsD_drop, rowsD_replicate] at e
  refine aCall_of e ?_
  refine wgo ?_
  repeat refine cj ?_
  refine kIf2 h (fun hb h => ?_) (fun hb h => ?_)
  refine wgo ?_
  repeat refine cj ?_
  refine kIf2 h (fun hb h => ?_) (fun hb h => ?_)
  refine wgo ?_
  repeat refine cj ?_
  refine kIf2 h (fun hb h => ?_) (fun hb h => ?_)
  refine wgo ?_
  repeat refine cj ?_
  obtain ⟨y4_20, hy4_20, h⟩ := bd h
  refine aCall_of (ledger_Get.spec hy4_20) ?_
  refine wgo ?_
  repeat refine cj ?_
  refine kIf2 h (fun hb h => ?_) (fun hb h => ?_)
  refine wgo ?_
  repeat refine cj ?_
  obtain ⟨y4_25, hy4_25, h⟩ := bd h
  refine aCall_of (ledger_Total.spec hy4_25) ?_
  refine wgo ?_
  repeat refine cj ?_
  refine kIf2 h (fun hb h => ?_) (fun hb h => ?_)
  refine wgo ?_
  repeat refine cj ?_
  refine kIf2 h (fun hb h => ?_) (fun hb h => ?_)
  refine wgo ?_
  repeat refine cj ?_
  obtain ⟨y4_35, hy4_35, h⟩ := bd h
  refine aCall_of (ledger_Right.spec hy4_35) ?_
  refine wgo ?_
  repeat refine cj ?_
  refine kIf2 h (fun hb h => ?_) (fun hb h => ?_)
  refine wgo ?_
  repeat refine cj ?_
  obtain ⟨y4_38, hy4_38, h⟩ := bd h
  refine aCall_of (ledger_Key.spec hy4_38) ?_
  refine wgo ?_
  repeat refine cj ?_
  refine kIf2 h (fun hb h => ?_) (fun hb h => ?_)
  refine wgo ?_
  repeat refine cj ?_
  obtain ⟨y4_41, hy4_41, h⟩ := bd h
  refine aCall_of (ledger_Key.spec hy4_41) ?_
  obtain rfl := Option.some.inj h
  exact fin
  obtain rfl := Option.some.inj h
  exact fin
  obtain rfl := Option.some.inj h
  exact fin
  obtain rfl := Option.some.inj h
  exact fin
  obtain rfl := Option.some.inj h
  exact fin
  obtain rfl := Option.some.inj h
  exact fin
  obtain rfl := Option.some.inj h
  exact fin
  obtain rfl := Option.some.inj h
  exact fin
  obtain rfl := Option.some.inj h
  exact fin
  obtain rfl := Option.some.inj h
  exact fin
end Go.Ax

/- The walk of novationref10_Key, printed by gen.py. -/
set_option linter.unusedSimpArgs false
set_option linter.unusedVariables false
namespace Go.Ax
open Go Go.Proofs
set_option maxRecDepth 100000
set_option maxHeartbeats 4000000
theorem novationref10_Key.spec {a0 : Int} {a1 : Int} {r : Bool} (h : novationref10_Key.f a0 a1 = some r) : FSpec Try.prog 34 [(false, [.v (.int .i64 a0)]), (false, [.v (.int .i64 a1)])] [.one (.d (.v (.bool r)))] := by
  unfold novationref10_Key.f at h
  refine fspec_data mixed Try.func34 rfl (by decide) [0, 1, 4, 5, 6, 21] (rs := [.tmp 4]) rfl (by decide) (n := 30) rfl (by simp) ?_
  refine wgo ?_
  repeat refine cj ?_
  refine kIf2 h (fun hb h => ?_) (fun hb h => ?_)
  refine wgo ?_
  repeat refine cj ?_
  refine kIf2 h (fun hb h => ?_) (fun hb h => ?_)
  obtain rfl := Option.some.inj h
  exact fin
  refine wgo ?_
  repeat refine cj ?_
  refine kIf2 h (fun hb h => ?_) (fun hb h => ?_)
  refine wgo ?_
  repeat refine cj ?_
  refine kIf2 h (fun hb h => ?_) (fun hb h => ?_)
  obtain rfl := Option.some.inj h
  exact fin
  obtain rfl := Option.some.inj h
  exact fin
  refine wgo ?_
  repeat refine cj ?_
  refine kIf2 h (fun hb h => ?_) (fun hb h => ?_)
  refine wgo ?_
  repeat refine cj ?_
  refine kIf2 h (fun hb h => ?_) (fun hb h => ?_)
  refine wgo ?_
  repeat refine cj ?_
  refine kIf2 h (fun hb h => ?_) (fun hb h => ?_)
  obtain rfl := Option.some.inj h
  exact fin
  obtain rfl := Option.some.inj h
  exact fin
  obtain rfl := Option.some.inj h
  exact fin
  refine wgo ?_
  repeat refine cj ?_
  refine kIf2 h (fun hb h => ?_) (fun hb h => ?_)
  refine wgo ?_
  repeat refine cj ?_
  refine kIf2 h (fun hb h => ?_) (fun hb h => ?_)
  obtain rfl := Option.some.inj h
  exact fin
  obtain rfl := Option.some.inj h
  exact fin
  obtain rfl := Option.some.inj h
  exact fin
  refine wgo ?_
  repeat refine cj ?_
  refine kIf2 h (fun hb h => ?_) (fun hb h => ?_)
  refine wgo ?_
  repeat refine cj ?_
  refine kIf2 h (fun hb h => ?_) (fun hb h => ?_)
  obtain rfl := Option.some.inj h
  exact fin
  refine wgo ?_
  repeat refine cj ?_
  refine kIf2 h (fun hb h => ?_) (fun hb h => ?_)
  refine wgo ?_
  repeat refine cj ?_
  refine kIf2 h (fun hb h => ?_) (fun hb h => ?_)
  obtain rfl := Option.some.inj h
  exact fin
  obtain rfl := Option.some.inj h
  exact fin
  refine wgo ?_
  repeat refine cj ?_
  refine kIf2 h (fun hb h => ?_) (fun hb h => ?_)
  refine wgo ?_
  repeat refine cj ?_
  refine kIf2 h (fun hb h => ?_) (fun hb h => ?_)
  refine wgo ?_
  repeat refine cj ?_
  refine kIf2 h (fun hb h => ?_) (fun hb h => ?_)
  obtain rfl := Option.some.inj h
  exact fin
  obtain rfl := Option.some.inj h
  exact fin
  obtain rfl := Option.some.inj h
  exact fin
  refine wgo ?_
  repeat refine cj ?_
  refine kIf2 h (fun hb h => ?_) (fun hb h => ?_)
  refine wgo ?_
  repeat refine cj ?_
  refine kIf2 h (fun hb h => ?_) (fun hb h => ?_)
  obtain rfl := Option.some.inj h
  exact fin
  obtain rfl := Option.some.inj h
  exact fin
  obtain rfl := Option.some.inj h
  exact fin
  refine wgo ?_
  repeat refine cj ?_
  refine kIf2 h (fun hb h => ?_) (fun hb h => ?_)
  refine wgo ?_
  repeat refine cj ?_
  refine kIf2 h (fun hb h => ?_) (fun hb h => ?_)
  obtain rfl := Option.some.inj h
  exact fin
  refine wgo ?_
  repeat refine cj ?_
  refine kIf2 h (fun hb h => ?_) (fun hb h => ?_)
  refine wgo ?_
  repeat refine cj ?_
  refine kIf2 h (fun hb h => ?_) (fun hb h => ?_)
  obtain rfl := Option.some.inj h
  exact fin
  obtain rfl := Option.some.inj h
  exact fin
  refine wgo ?_
  repeat refine cj ?_
  refine kIf2 h (fun hb h => ?_) (fun hb h => ?_)
  refine wgo ?_
  repeat refine cj ?_
  refine kIf2 h (fun hb h => ?_) (fun hb h => ?_)
  refine wgo ?_
  repeat refine cj ?_
  refine kIf2 h (fun hb h => ?_) (fun hb h => ?_)
  obtain rfl := Option.some.inj h
  exact fin
  obtain rfl := Option.some.inj h
  exact fin
  obtain rfl := Option.some.inj h
  exact fin
  refine wgo ?_
  repeat refine cj ?_
  refine kIf2 h (fun hb h => ?_) (fun hb h => ?_)
  refine wgo ?_
  repeat refine cj ?_
  refine kIf2 h (fun hb h => ?_) (fun hb h => ?_)
  obtain rfl := Option.some.inj h
  exact fin
  obtain rfl := Option.some.inj h
  exact fin
  obtain rfl := Option.some.inj h
  exact fin
  refine wgo ?_
  repeat refine cj ?_
  refine kIf2 h (fun hb h => ?_) (fun hb h => ?_)
  obtain rfl := Option.some.inj h
  exact fin
  refine wgo ?_
  repeat refine cj ?_
  refine kIf2 h (fun hb h => ?_) (fun hb h => ?_)
  refine wgo ?_
  repeat refine cj ?_
  refine kIf2 h (fun hb h => ?_) (fun hb h => ?_)
  obtain rfl := Option.some.inj h
  exact fin
  obtain rfl := Option.some.inj h
  exact fin
  refine wgo ?_
  repeat refine cj ?_
  refine kIf2 h (fun hb h => ?_) (fun hb h => ?_)
  refine wgo ?_
  repeat refine cj ?_
  refine kIf2 h (fun hb h => ?_) (fun hb h => ?_)
  refine wgo ?_
  repeat refine cj ?_
  refine kIf2 h (fun hb h => ?_) (fun hb h => ?_)
  obtain rfl := Option.some.inj h
  exact fin
  obtain rfl := Option.some.inj h
  exact fin
  obtain rfl := Option.some.inj h
  exact fin
  refine wgo ?_
  repeat refine cj ?_
  refine kIf2 h (fun hb h => ?_) (fun hb h => ?_)
  refine wgo ?_
  repeat refine cj ?_
  refine kIf2 h (fun hb h => ?_) (fun hb h => ?_)
  obtain rfl := Option.some.inj h
  exact fin
  obtain rfl := Option.some.inj h
  exact fin
  obtain rfl := Option.some.inj h
  exact fin
end Go.Ax

/- The walk of novationref10_behind, printed by gen.py. -/
set_option linter.unusedSimpArgs false
set_option linter.unusedVariables false
namespace Go.Ax
open Go Go.Proofs
set_option maxRecDepth 100000
set_option maxHeartbeats 4000000
theorem novationref10_behind.spec {a0 : Int} {a1 : Int} {a2 : Int} {a3 : List novationref10_Part} {r : Int × Bool} (h : novationref10_behind.f a0 a1 a2 a3 = some r) : FSpec Try.prog 135 [(false, [.v (.int .i64 a0)]), (false, [.v (.int .i64 a1)]), (false, [.v (.int .i64 a2)]), (false, [.l (rowsD novationref10_Part.D a3)])] [.one (.d (.v (.int .i64 r.1))), .one (.d (.v (.bool r.2)))] := by
  unfold novationref10_behind.f at h
  refine fspec_data mixed Try.func135 rfl (by decide) [0, 1, 2, 3, 8, 9, 10, 11, 12] (rs := [.tmp 8, .tmp 9]) rfl (by decide) (n := 53) rfl (by simp) ?_
  refine wgo ?_
  repeat refine cj ?_
  obtain ⟨s0, h0, q0⟩ := bd h
  rw [aCode_loop]
  refine aLoop_fx (α := Nat × Int × Bool × Int) (fun p => (⟨53, [], [(0, .one (.v (.int .i64 a0))), (1, .one (.v (.int .i64 a1))), (2, .one (.v (.int .i64 a2))), (3, .one (.l (rowsD novationref10_Part.D a3))), (8, .one (.v (.int .i64 0))), (9, .one (.v (.bool false))), (10, .box [.d (.v (.bool (decide ((p.2.1 : Int) < 0)))), .d (.l (rowsU (digs (p.2.1 : Int).natAbs)))]), (11, .one (.v (.bool p.2.2.1))), (12, .one (.v (.int .i64 p.2.2.2)))]⟩ : S)) (fun p => novationref10_behind.l0 a1 a2 a3 p.1 p.2.1 p.2.2.1 p.2.2.2 = some s0) (fun p => p.1) (FUEL, 0, false, 0) h0 ?_ ?_
  exact fxs
  rintro ⟨k0, x10_0, x11_0, x12_0⟩ h
  simp only at h
  obtain _ | k0 := k0
  exact absurd h (by simp [novationref10_behind.l0])
  rw [novationref10_behind.l0] at h
  refine wgo ?_
  repeat refine cj ?_
  refine kIf2 h (fun hb h => ?_) (fun hb h => ?_)
  obtain ⟨⟨hg5_2_0, hg5_2_1⟩, h⟩ := gd h
  refine wgo ?_
  repeat refine cj ?_
  refine kIf2 h (fun hb h => ?_) (fun hb h => ?_)
  refine wgo ?_
  repeat refine cj ?_
  refine kIf2 h (fun hb h => ?_) (fun hb h => ?_)
  refine wgo ?_
  repeat refine cj ?_
  obtain ⟨y6_6, hy6_6, h⟩ := bd h
  refine aCall_of (novationref1_Plus.spec hy6_6) ?_
  refine wgo ?_
  repeat refine cj ?_
  refine Round.fx (k0, y6_6, true, IntKind.i64.wrap (x12_0 + 1)) h (Nat.lt_succ_self k0) ?_
  exact fxs
  refine wgo ?_
  repeat refine cj ?_
  refine Round.fx (k0, x10_0, x11_0, IntKind.i64.wrap (x12_0 + 1)) h (Nat.lt_succ_self k0) ?_
  exact fxs
  refine wgo ?_
  repeat refine cj ?_
  refine Round.fx (k0, x10_0, x11_0, IntKind.i64.wrap (x12_0 + 1)) h (Nat.lt_succ_self k0) ?_
  exact fxs
  obtain rfl := Option.some.inj h
  have h := q0
  try dsimp only at h
  refine wgo ?_
  repeat refine cj ?_
  refine kIf2 h (fun hb h => ?_) (fun hb h => ?_)
  obtain rfl := Option.some.inj h
  exact fin
  refine wgo ?_
  repeat refine cj ?_
  obtain ⟨y9_2, hy9_2, h⟩ := bd h
  refine aCall_of (novationref1_Whole.spec hy9_2) ?_
  refine wgo ?_
  repeat refine cj ?_
  obtain ⟨y9_3, hy9_3, h⟩ := bd h
  refine aCall_of (novationref1_Plus.spec hy9_3) ?_
  refine wgo ?_
  repeat refine cj ?_
  obtain ⟨y9_4, hy9_4, h⟩ := bd h
  refine aCall_of (novationref1_Int.spec hy9_4) ?_
  obtain rfl := Option.some.inj h
  exact fin
end Go.Ax

/- The walk of novationref10_Laid, printed by gen.py. -/
set_option linter.unusedSimpArgs false
set_option linter.unusedVariables false
namespace Go.Ax
open Go Go.Proofs
set_option maxRecDepth 100000
set_option maxHeartbeats 4000000
theorem novationref10_Laid.spec {a0 : List api_Row} {a1 : List novationref10_Part} {r : (List api_Row) × Bool} (h : novationref10_Laid.f a0 a1 = some r) : FSpec Try.prog 103 [(false, [.l (rowsD api_Row.D a0)]), (false, [.l (rowsD novationref10_Part.D a1)])] [.one (.d (.l (rowsD api_Row.D r.1))), .one (.d (.v (.bool r.2)))] := by
  unfold novationref10_Laid.f at h
  refine fspec_data mixed Try.func103 rfl (by decide) [0, 1, 4, 5, 6, 7, 8, 9, 10, 11] (rs := [.tmp 4, .tmp 5]) rfl (by decide) (n := 69) rfl (by simp) ?_
  refine wgo ?_
  repeat refine cj ?_
  obtain ⟨f0, h0, q0⟩ := bd h
  rw [aCode_loop]
  refine aLoop_fx (α := Nat × (List api_Row) × Int × Int) (fun p => (⟨69, [], [(0, .one (.l (rowsD api_Row.D a0))), (1, .one (.l (rowsD novationref10_Part.D a1))), (4, .own 3 (rowsD api_Row.D ([] : List api_Row))), (5, .one (.v (.bool false))), (6, .own 3 (rowsD api_Row.D p.2.1)), (7, .one (.v (.int .i64 p.2.2.1))), (8, .one (.v (.int .i64 p.2.2.2))), (9, .none), (10, .none), (11, .none)]⟩ : S)) (fun p => novationref10_Laid.l0 a0 a1 p.1 p.2.1 p.2.2.1 p.2.2.2 = some f0) (fun p => p.1) (FUEL, ([] : List api_Row), 0, 1) h0 ?_ ?_
  exact fxs
  rintro ⟨k0, x6_0, x7_0, x8_0⟩ h
  simp only at h
  obtain _ | k0 := k0
  exact absurd h (by simp [novationref10_Laid.l0])
  rw [novationref10_Laid.l0] at h
  refine wgo ?_
  repeat refine cj ?_
  refine kIf2 h (fun hb h => ?_) (fun hb h => ?_)
  refine wgo ?_
  repeat refine cj ?_
  obtain ⟨f2, h2, q2⟩ := bd h
  rw [aCode_loop]
  refine aLoop_fx (α := Nat × (List api_Row) × Int × Int) (fun p => (⟨69, [], [(0, .one (.l (rowsD api_Row.D a0))), (1, .one (.l (rowsD novationref10_Part.D a1))), (4, .own 3 (rowsD api_Row.D ([] : List api_Row))), (5, .one (.v (.bool false))), (6, .own 3 (rowsD api_Row.D p.2.1)), (7, .one (.v (.int .i64 p.2.2.1))), (8, .one (.v (.int .i64 x8_0))), (9, .one (.v (.int .i64 p.2.2.2))), (10, .none), (11, .none)]⟩ : S)) (fun p => novationref10_Laid.l1 a0 a1 x8_0 p.1 p.2.1 p.2.2.1 p.2.2.2 = some f2) (fun p => p.1) (FUEL, x6_0, x7_0, 0) h2 ?_ ?_
  exact fxs
  rintro ⟨k2, x6_2, x7_2, x9_2⟩ h
  simp only at h
  obtain _ | k2 := k2
  exact absurd h (by simp [novationref10_Laid.l1])
  rw [novationref10_Laid.l1] at h
  refine wgo ?_
  repeat refine cj ?_
  refine kIf2 h (fun hb h => ?_) (fun hb h => ?_)
  refine wgo ?_
  repeat refine cj ?_
  refine kIf2 h (fun hb h => ?_) (fun hb h => ?_)
  obtain ⟨⟨hg10_7_0, hg10_7_1⟩, h⟩ := gd h
  refine wgo ?_
  repeat refine cj ?_
  refine kIf2 h (fun hb h => ?_) (fun hb h => ?_)
  refine wgo ?_
  repeat refine cj ?_
  refine kIf2 h (fun hb h => ?_) (fun hb h => ?_)
  refine wgo ?_
  repeat refine cj ?_
  obtain ⟨y13_4, hy13_4, h⟩ := bd h
  refine aCall_of (novationref10_behind.spec hy13_4) ?_
  refine wgo ?_
  repeat refine cj ?_
  refine kIf2 h (fun hb h => ?_) (fun hb h => ?_)
  obtain rfl := Option.some.inj h
  have h := q2
  simp only [Flow.go_ret, Flow.goL_ret] at h
  obtain rfl := Option.some.inj h
  have h := q0
  simp only [Flow.go_ret, Flow.goL_ret] at h
  obtain rfl := Option.some.inj h
  exact fin
  refine wgo ?_
  repeat refine cj ?_
  refine kIf2 h (fun hb h => ?_) (fun hb h => ?_)
  obtain ⟨hg17_6, h⟩ := gd h
  refine wgo ?_
  repeat refine cj ?_
  refine Round.fx (k2, x6_2 ++ ([(⟨x8_0, x9_2, y13_4.1⟩ : api_Row)]), IntKind.i64.wrap (x7_2 + 1), IntKind.i64.wrap (x9_2 + 1)) h (Nat.lt_succ_self k2) ?_
  exact fxs
  refine wgo ?_
  repeat refine cj ?_
  refine Round.fx (k2, x6_2, IntKind.i64.wrap (x7_2 + 1), IntKind.i64.wrap (x9_2 + 1)) h (Nat.lt_succ_self k2) ?_
  exact fxs
  refine wgo ?_
  repeat refine cj ?_
  obtain ⟨y13_4, hy13_4, h⟩ := bd h
  refine aCall_of (novationref10_behind.spec hy13_4) ?_
  refine wgo ?_
  repeat refine cj ?_
  refine kIf2 h (fun hb h => ?_) (fun hb h => ?_)
  obtain rfl := Option.some.inj h
  have h := q2
  simp only [Flow.go_ret, Flow.goL_ret] at h
  obtain rfl := Option.some.inj h
  have h := q0
  simp only [Flow.go_ret, Flow.goL_ret] at h
  obtain rfl := Option.some.inj h
  exact fin
  refine wgo ?_
  repeat refine cj ?_
  refine kIf2 h (fun hb h => ?_) (fun hb h => ?_)
  obtain ⟨hg17_6, h⟩ := gd h
  refine wgo ?_
  repeat refine cj ?_
  refine Round.fx (k2, x6_2 ++ ([(⟨x8_0, x9_2, y13_4.1⟩ : api_Row)]), x7_2, IntKind.i64.wrap (x9_2 + 1)) h (Nat.lt_succ_self k2) ?_
  exact fxs
  refine wgo ?_
  repeat refine cj ?_
  refine Round.fx (k2, x6_2, x7_2, IntKind.i64.wrap (x9_2 + 1)) h (Nat.lt_succ_self k2) ?_
  exact fxs
  refine wgo ?_
  repeat refine cj ?_
  obtain ⟨y13_4, hy13_4, h⟩ := bd h
  refine aCall_of (novationref10_behind.spec hy13_4) ?_
  refine wgo ?_
  repeat refine cj ?_
  refine kIf2 h (fun hb h => ?_) (fun hb h => ?_)
  obtain rfl := Option.some.inj h
  have h := q2
  simp only [Flow.go_ret, Flow.goL_ret] at h
  obtain rfl := Option.some.inj h
  have h := q0
  simp only [Flow.go_ret, Flow.goL_ret] at h
  obtain rfl := Option.some.inj h
  exact fin
  refine wgo ?_
  repeat refine cj ?_
  refine kIf2 h (fun hb h => ?_) (fun hb h => ?_)
  obtain ⟨hg17_6, h⟩ := gd h
  refine wgo ?_
  repeat refine cj ?_
  refine Round.fx (k2, x6_2 ++ ([(⟨x8_0, x9_2, y13_4.1⟩ : api_Row)]), x7_2, IntKind.i64.wrap (x9_2 + 1)) h (Nat.lt_succ_self k2) ?_
  exact fxs
  refine wgo ?_
  repeat refine cj ?_
  refine Round.fx (k2, x6_2, x7_2, IntKind.i64.wrap (x9_2 + 1)) h (Nat.lt_succ_self k2) ?_
  exact fxs
  refine wgo ?_
  repeat refine cj ?_
  obtain ⟨y13_4, hy13_4, h⟩ := bd h
  refine aCall_of (novationref10_behind.spec hy13_4) ?_
  refine wgo ?_
  repeat refine cj ?_
  refine kIf2 h (fun hb h => ?_) (fun hb h => ?_)
  obtain rfl := Option.some.inj h
  have h := q2
  simp only [Flow.go_ret, Flow.goL_ret] at h
  obtain rfl := Option.some.inj h
  have h := q0
  simp only [Flow.go_ret, Flow.goL_ret] at h
  obtain rfl := Option.some.inj h
  exact fin
  refine wgo ?_
  repeat refine cj ?_
  refine kIf2 h (fun hb h => ?_) (fun hb h => ?_)
  obtain ⟨hg17_6, h⟩ := gd h
  refine wgo ?_
  repeat refine cj ?_
  refine Round.fx (k2, x6_2 ++ ([(⟨x8_0, x9_2, y13_4.1⟩ : api_Row)]), x7_2, IntKind.i64.wrap (x9_2 + 1)) h (Nat.lt_succ_self k2) ?_
  exact fxs
  refine wgo ?_
  repeat refine cj ?_
  refine Round.fx (k2, x6_2, x7_2, IntKind.i64.wrap (x9_2 + 1)) h (Nat.lt_succ_self k2) ?_
  exact fxs
  obtain rfl := Option.some.inj h
  have h := q2
  simp only [Flow.go_out, Flow.goL_out] at h
  try dsimp only at h
  refine wgo ?_
  repeat refine cj ?_
  refine Round.fx (k0, x6_2, x7_2, IntKind.i64.wrap (x8_0 + 1)) h (Nat.lt_succ_self k0) ?_
  exact fxs
  obtain rfl := Option.some.inj h
  have h := q0
  simp only [Flow.go_out, Flow.goL_out] at h
  try dsimp only at h
  obtain rfl := Option.some.inj h
  exact fin
end Go.Ax
