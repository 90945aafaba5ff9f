/- The walk of rank_done, printed by gen.py. -/
import Derived.Test.YtjmoeebaehjmnaaGa
import Derived.Test.YtjmoeebaehjmnaaGs
import Derived.Test.YtjmoeebaehjmnaaWc
set_option linter.unusedVariables false
set_option linter.unusedSimpArgs false
set_option linter.unusedSimpArgs false
set_option linter.unusedVariables false
namespace Go.Ax
open Go Go.Proofs
set_option maxRecDepth 100000
set_option maxHeartbeats 4000000
theorem rank_done.spec {a0 : Int} {a1 : List api_Lot} {a2 : List api_Bid} {r : Int} (h : rank_done.f a0 a1 a2 = some r) : FSpec Try.prog 36 [(false, [.v (.int .i64 a0)]), (false, [.l (rowsD api_Lot.D a1)]), (false, [.l (rowsD api_Bid.D a2)])] [.one (.d (.v (.int .i64 r)))] := by
  unfold rank_done.f at h
  refine fspec_data mixed Try.func36 rfl (by decide) [0, 1, 2, 6, 7, 9, 11, 12, 13, 14, 15, 16, 30, 31, 32] (rs := [.tmp 6]) rfl (by decide) (n := 59) rfl (by simp) ?_
  refine wgo ?_
  repeat refine cj ?_
  obtain ⟨f0, h0, q0⟩ := bd h
  rw [aCode_loop]
  refine aLoop_fx (α := Nat × Int) (fun p => (⟨59, [], [(0, .one (.v (.int .i64 a0))), (1, .one (.l (rowsD api_Lot.D a1))), (2, .one (.l (rowsD api_Bid.D a2))), (6, .one (.v (.int .i64 0))), (7, .one (.v (.int .i64 1))), (9, .none), (11, .none), (12, .none), (13, .none), (14, .one (.l (rowsD api_Lot.D a1))), (15, .one (.v (.int .i64 (a1.length : Int)))), (16, .one (.v (.int .i64 p.2))), (30, .none), (31, .none), (32, .none)]⟩ : S)) (fun p => rank_done.l0 a0 a1 p.1 p.2 = some f0) (fun p => p.1) (FUEL, 0) h0 ?_ ?_
  exact fxs
  rintro ⟨k0, x16_0⟩ h
  simp only at h
  obtain _ | k0 := k0
  exact absurd h (by simp [rank_done.l0])
  rw [rank_done.l0] at h
  refine wgo ?_
  repeat refine cj ?_
  refine kIf2 h (fun hb h => ?_) (fun hb h => ?_)
  obtain ⟨⟨hg4_0_0, hg4_0_1⟩, h⟩ := gd h
  refine wgo ?_
  repeat refine cj ?_
  refine kIf2 h (fun hb h => ?_) (fun hb h => ?_)
  refine wgo ?_
  repeat refine cj ?_
  refine kIf2 h (fun hb h => ?_) (fun hb h => ?_)
  obtain rfl := Option.some.inj h
  have h := q0
  simp only [Flow.go_ret, Flow.goL_ret] at h
  obtain rfl := Option.some.inj h
  exact fin
  refine wgo ?_
  repeat refine cj ?_
  refine Round.fx (k0, IntKind.i64.wrap (x16_0 + 1)) h (Nat.lt_succ_self k0) ?_
  exact fxs
  refine wgo ?_
  repeat refine cj ?_
  refine Round.fx (k0, IntKind.i64.wrap (x16_0 + 1)) h (Nat.lt_succ_self k0) ?_
  exact fxs
  obtain rfl := Option.some.inj h
  have h := q0
  simp only [Flow.go_out, Flow.goL_out] at h
  try dsimp only at h
  refine wgo ?_
  repeat refine cj ?_
  obtain ⟨s3, h3, q3⟩ := bd h
  rw [aCode_loop]
  refine aLoop_fx (α := Nat × Int × Int) (fun p => (⟨59, [], [(0, .one (.v (.int .i64 a0))), (1, .one (.l (rowsD api_Lot.D a1))), (2, .one (.l (rowsD api_Bid.D a2))), (6, .one (.v (.int .i64 0))), (7, .one (.v (.int .i64 p.2.1))), (9, .none), (11, .none), (12, .none), (13, .none), (14, .one (.l (rowsD api_Lot.D a1))), (15, .one (.v (.int .i64 (a1.length : Int)))), (16, .one (.v (.int .i64 x16_0))), (30, .one (.l (rowsD api_Bid.D a2))), (31, .one (.v (.int .i64 (a2.length : Int)))), (32, .one (.v (.int .i64 p.2.2)))]⟩ : S)) (fun p => rank_done.l1 a0 a1 a2 p.1 p.2.1 p.2.2 = some s3) (fun p => p.1) (FUEL, 1, 0) h3 ?_ ?_
  exact fxs
  rintro ⟨k3, x7_3, x32_3⟩ h
  simp only at h
  obtain _ | k3 := k3
  exact absurd h (by simp [rank_done.l1])
  rw [rank_done.l1] at h
  refine wgo ?_
  repeat refine cj ?_
  refine kIf2 h (fun hb h => ?_) (fun hb h => ?_)
  obtain ⟨⟨hg10_0_0, hg10_0_1⟩, h⟩ := gd h
  refine wgo ?_
  repeat refine cj ?_
  refine kIf2 h (fun hb h => ?_) (fun hb h => ?_)
  refine wgo ?_
  repeat refine cj ?_
  refine Round.fx (k3, x7_3, IntKind.i64.wrap (x32_3 + 1)) h (Nat.lt_succ_self k3) ?_
  exact fxs
  refine wgo ?_
  repeat refine cj ?_
  obtain ⟨y13_3, hy13_3, h⟩ := bd h
  refine aCall_of (lot_Find.spec hy13_3) ?_
  refine wgo ?_
  repeat refine cj ?_
  refine kIf2 h (fun hb h => ?_) (fun hb h => ?_)
  refine wgo ?_
  repeat refine cj ?_
  refine kIf2 h (fun hb h => ?_) (fun hb h => ?_)
  refine wgo ?_
  repeat refine cj ?_
  refine Round.fx (k3, 3, IntKind.i64.wrap (x32_3 + 1)) h (Nat.lt_succ_self k3) ?_
  exact fxs
  refine wgo ?_
  repeat refine cj ?_
  refine Round.fx (k3, (if 2 > x7_3 then 2 else x7_3), IntKind.i64.wrap (x32_3 + 1)) h (Nat.lt_succ_self k3) ?_
  exact fxs
  refine wgo ?_
  repeat refine cj ?_
  refine Round.fx (k3, (if 2 > x7_3 then 2 else x7_3), IntKind.i64.wrap (x32_3 + 1)) h (Nat.lt_succ_self k3) ?_
  exact fxs
  obtain rfl := Option.some.inj h
  have h := q3
  try dsimp only at h
  obtain rfl := Option.some.inj h
  exact fin
end Go.Ax

/- The walk of rank_Deeds_2, printed by gen.py. -/
set_option linter.unusedSimpArgs false
set_option linter.unusedVariables false
namespace Go.Ax
open Go Go.Proofs
set_option maxRecDepth 100000
set_option maxHeartbeats 4000000
theorem rank_Deeds_2.spec {a0 : api_Bid} {a1 : Int} {r : Bool} (h : rank_Deeds_2.f a0 a1 = some r) : FSpec Try.prog 35 [(true, api_Bid.D a0), (false, [.p [.v (.int .i64 a1)]])] [.one (.d (.v (.bool r)))] := by
  unfold rank_Deeds_2.f at h
  refine fspec_data mixed Try.func35 rfl (by decide) [0, 1, 2, 3] (rs := [.tmp 3]) rfl (by decide) (n := 8) rfl (by simp) ?_
  obtain rfl := Option.some.inj h
  exact fin
end Go.Ax

/- The walk of slices_IndexFunc_api_Bid_rank_Deeds_2, printed by gen.py. -/
set_option linter.unusedSimpArgs false
set_option linter.unusedVariables false
namespace Go.Ax
open Go Go.Proofs
set_option maxRecDepth 100000
set_option maxHeartbeats 4000000
theorem slices_IndexFunc_api_Bid_rank_Deeds_2.spec {a0 : List api_Bid} {a1_0 : Int} {r : Int} (h : slices_IndexFunc_api_Bid_rank_Deeds_2.f a0 a1_0 = some r) : FSpec Try.prog 68 [(false, [.l (rowsD api_Bid.D a0)]), (false, [.c 35 [.p [.v (.int .i64 a1_0)]]])] [.one (.d (.v (.int .i64 r)))] := by
  unfold slices_IndexFunc_api_Bid_rank_Deeds_2.f at h
  refine fspec_data mixed Try.func68 rfl (by decide) [0, 1, 4, 5, 7, 8] (rs := [.tmp 4]) rfl (by decide) (n := 19) rfl (by simp) ?_
  refine wgo ?_
  repeat refine cj ?_
  obtain ⟨f0, h0, q0⟩ := bd h
  rw [aCode_loop]
  refine aLoop_fx (α := Nat × Int) (fun p => (⟨19, [], [(0, .one (.l (rowsD api_Bid.D a0))), (1, .one (.c 35 [.p [.v (.int .i64 a1_0)]])), (4, .one (.v (.int .i64 0))), (5, .none), (7, .one (.v (.int .i64 (a0.length : Int)))), (8, .one (.v (.int .i64 p.2)))]⟩ : S)) (fun p => slices_IndexFunc_api_Bid_rank_Deeds_2.l0 a0 a1_0 p.1 p.2 = some f0) (fun p => p.1) (FUEL, 0) h0 ?_ ?_
  exact fxs
  rintro ⟨k0, x8_0⟩ h
  simp only at h
  obtain _ | k0 := k0
  exact absurd h (by simp [slices_IndexFunc_api_Bid_rank_Deeds_2.l0])
  rw [slices_IndexFunc_api_Bid_rank_Deeds_2.l0] at h
  refine wgo ?_
  repeat refine cj ?_
  refine kIf2 h (fun hb h => ?_) (fun hb h => ?_)
  obtain ⟨⟨hg4_3_0, hg4_3_1⟩, h⟩ := gd h
  refine wgo ?_
  repeat refine cj ?_
  obtain ⟨y4_5, hy4_5, h⟩ := bd h
  have e := rank_Deeds_2.spec hy4_5
  simp only [go_sem, List.map_set, rowsD_append, rowsD_cons, rowsD_nil, rowsD_set, rowsD_take, rowsD_drop, rowsD_replicate] at e
  refine aCall_of e ?_
  refine wgo ?_
  repeat refine cj ?_
  refine kIf2 h (fun hb h => ?_) (fun hb h => ?_)
  obtain rfl := Option.some.inj h
  have h := q0
  simp only [Flow.go_ret, Flow.goL_ret] at h
  obtain rfl := Option.some.inj h
  exact fin
  refine wgo ?_
  repeat refine cj ?_
  refine Round.fx (k0, IntKind.i64.wrap (x8_0 + 1)) h (Nat.lt_succ_self k0) ?_
  exact fxs
  obtain rfl := Option.some.inj h
  have h := q0
  simp only [Flow.go_out, Flow.goL_out] at h
  try dsimp only at h
  obtain rfl := Option.some.inj h
  exact fin
end Go.Ax

/- The walk of slices_ContainsFunc_api_Bid_rank_Deeds_2, printed by gen.py. -/
set_option linter.unusedSimpArgs false
set_option linter.unusedVariables false
namespace Go.Ax
open Go Go.Proofs
set_option maxRecDepth 100000
set_option maxHeartbeats 4000000
theorem slices_ContainsFunc_api_Bid_rank_Deeds_2.spec {a0 : List api_Bid} {a1_0 : Int} {r : Bool} (h : slices_ContainsFunc_api_Bid_rank_Deeds_2.f a0 a1_0 = some r) : FSpec Try.prog 34 [(false, [.l (rowsD api_Bid.D a0)]), (false, [.c 35 [.p [.v (.int .i64 a1_0)]]])] [.one (.d (.v (.bool r)))] := by
  unfold slices_ContainsFunc_api_Bid_rank_Deeds_2.f at h
  refine fspec_data mixed Try.func34 rfl (by decide) [0, 1, 4] (rs := [.tmp 4]) rfl (by decide) (n := 9) rfl (by simp) ?_
  refine wgo ?_
  repeat refine cj ?_
  obtain ⟨y1_2, hy1_2, h⟩ := bd h
  refine aCall_of (slices_IndexFunc_api_Bid_rank_Deeds_2.spec hy1_2) ?_
  obtain rfl := Option.some.inj h
  exact fin
end Go.Ax

/- The walk of slices_Index_int, printed by gen.py. -/
set_option linter.unusedSimpArgs false
set_option linter.unusedVariables false
namespace Go.Ax
open Go Go.Proofs
set_option maxRecDepth 100000
set_option maxHeartbeats 4000000
theorem slices_Index_int.spec {a0 : List Int} {a1 : Int} {r : Int} (h : slices_Index_int.f a0 a1 = some r) : FSpec Try.prog 67 [(false, [.l (rowsD i64D a0)]), (false, [.v (.int .i64 a1)])] [.one (.d (.v (.int .i64 r)))] := by
  unfold slices_Index_int.f at h
  refine fspec_data mixed Try.func67 rfl (by decide) [0, 1, 4, 5, 7, 8] (rs := [.tmp 4]) rfl (by decide) (n := 19) rfl (by simp) ?_
  refine wgo ?_
  repeat refine cj ?_
  obtain ⟨f0, h0, q0⟩ := bd h
  rw [aCode_loop]
  refine aLoop_fx (α := Nat × Int) (fun p => (⟨19, [], [(0, .one (.l (rowsD i64D a0))), (1, .one (.v (.int .i64 a1))), (4, .one (.v (.int .i64 0))), (5, .none), (7, .one (.v (.int .i64 (a0.length : Int)))), (8, .one (.v (.int .i64 p.2)))]⟩ : S)) (fun p => slices_Index_int.l0 a0 a1 p.1 p.2 = some f0) (fun p => p.1) (FUEL, 0) h0 ?_ ?_
  exact fxs
  rintro ⟨k0, x8_0⟩ h
  simp only at h
  obtain _ | k0 := k0
  exact absurd h (by simp [slices_Index_int.l0])
  rw [slices_Index_int.l0] at h
  refine wgo ?_
  repeat refine cj ?_
  refine kIf2 h (fun hb h => ?_) (fun hb h => ?_)
  obtain ⟨⟨hg4_3_0, hg4_3_1⟩, h⟩ := gd h
  refine wgo ?_
  repeat refine cj ?_
  refine kIf2 h (fun hb h => ?_) (fun hb h => ?_)
  obtain rfl := Option.some.inj h
  have h := q0
  simp only [Flow.go_ret, Flow.goL_ret] at h
  obtain rfl := Option.some.inj h
  exact fin
  refine wgo ?_
  repeat refine cj ?_
  refine Round.fx (k0, IntKind.i64.wrap (x8_0 + 1)) h (Nat.lt_succ_self k0) ?_
  exact fxs
  obtain rfl := Option.some.inj h
  have h := q0
  simp only [Flow.go_out, Flow.goL_out] at h
  try dsimp only at h
  obtain rfl := Option.some.inj h
  exact fin
end Go.Ax

/- The walk of slices_Contains_int, printed by gen.py. -/
set_option linter.unusedSimpArgs false
set_option linter.unusedVariables false
namespace Go.Ax
open Go Go.Proofs
set_option maxRecDepth 100000
set_option maxHeartbeats 4000000
theorem slices_Contains_int.spec {a0 : List Int} {a1 : Int} {r : Bool} (h : slices_Contains_int.f a0 a1 = some r) : FSpec Try.prog 33 [(false, [.l (rowsD i64D a0)]), (false, [.v (.int .i64 a1)])] [.one (.d (.v (.bool r)))] := by
  unfold slices_Contains_int.f at h
  refine fspec_data mixed Try.func33 rfl (by decide) [0, 1, 4] (rs := [.tmp 4]) rfl (by decide) (n := 9) rfl (by simp) ?_
  refine wgo ?_
  repeat refine cj ?_
  obtain ⟨y1_2, hy1_2, h⟩ := bd h
  refine aCall_of (slices_Index_int.spec hy1_2) ?_
  obtain rfl := Option.some.inj h
  exact fin
end Go.Ax

/- The walk of rank_Deeds_1, printed by gen.py. -/
set_option linter.unusedSimpArgs false
set_option linter.unusedVariables false
namespace Go.Ax
open Go Go.Proofs
set_option maxRecDepth 100000
set_option maxHeartbeats 4000000
theorem rank_Deeds_1.spec {a0 : api_Deed} {a1 : Int} {r : Bool} (h : rank_Deeds_1.f a0 a1 = some r) : FSpec Try.prog 32 [(true, api_Deed.D a0), (false, [.p [.v (.int .i64 a1)]])] [.one (.d (.v (.bool r)))] := by
  unfold rank_Deeds_1.f at h
  refine fspec_data mixed Try.func32 rfl (by decide) [0, 1, 2, 3] (rs := [.tmp 3]) rfl (by decide) (n := 8) rfl (by simp) ?_
  obtain rfl := Option.some.inj h
  exact fin
end Go.Ax

/- The walk of slices_IndexFunc_api_Deed_rank_Deeds_1, printed by gen.py. -/
set_option linter.unusedSimpArgs false
set_option linter.unusedVariables false
namespace Go.Ax
open Go Go.Proofs
set_option maxRecDepth 100000
set_option maxHeartbeats 4000000
theorem slices_IndexFunc_api_Deed_rank_Deeds_1.spec {a0 : List api_Deed} {a1_0 : Int} {r : Int} (h : slices_IndexFunc_api_Deed_rank_Deeds_1.f a0 a1_0 = some r) : FSpec Try.prog 31 [(false, [.l (rowsD api_Deed.D a0)]), (false, [.c 32 [.p [.v (.int .i64 a1_0)]]])] [.one (.d (.v (.int .i64 r)))] := by
  unfold slices_IndexFunc_api_Deed_rank_Deeds_1.f at h
  refine fspec_data mixed Try.func31 rfl (by decide) [0, 1, 4, 5, 7, 8] (rs := [.tmp 4]) rfl (by decide) (n := 19) rfl (by simp) ?_
  refine wgo ?_
  repeat refine cj ?_
  obtain ⟨f0, h0, q0⟩ := bd h
  rw [aCode_loop]
  refine aLoop_fx (α := Nat × Int) (fun p => (⟨19, [], [(0, .one (.l (rowsD api_Deed.D a0))), (1, .one (.c 32 [.p [.v (.int .i64 a1_0)]])), (4, .one (.v (.int .i64 0))), (5, .none), (7, .one (.v (.int .i64 (a0.length : Int)))), (8, .one (.v (.int .i64 p.2)))]⟩ : S)) (fun p => slices_IndexFunc_api_Deed_rank_Deeds_1.l0 a0 a1_0 p.1 p.2 = some f0) (fun p => p.1) (FUEL, 0) h0 ?_ ?_
  exact fxs
  rintro ⟨k0, x8_0⟩ h
  simp only at h
  obtain _ | k0 := k0
  exact absurd h (by simp [slices_IndexFunc_api_Deed_rank_Deeds_1.l0])
  rw [slices_IndexFunc_api_Deed_rank_Deeds_1.l0] at h
  refine wgo ?_
  repeat refine cj ?_
  refine kIf2 h (fun hb h => ?_) (fun hb h => ?_)
  obtain ⟨⟨hg4_3_0, hg4_3_1⟩, h⟩ := gd h
  refine wgo ?_
  repeat refine cj ?_
  obtain ⟨y4_5, hy4_5, h⟩ := bd h
  have e := rank_Deeds_1.spec hy4_5
  simp only [go_sem, List.map_set, rowsD_append, rowsD_cons, rowsD_nil, rowsD_set, rowsD_take, rowsD_drop, rowsD_replicate] at e
  refine aCall_of e ?_
  refine wgo ?_
  repeat refine cj ?_
  refine kIf2 h (fun hb h => ?_) (fun hb h => ?_)
  obtain rfl := Option.some.inj h
  have h := q0
  simp only [Flow.go_ret, Flow.goL_ret] at h
  obtain rfl := Option.some.inj h
  exact fin
  refine wgo ?_
  repeat refine cj ?_
  refine Round.fx (k0, IntKind.i64.wrap (x8_0 + 1)) h (Nat.lt_succ_self k0) ?_
  exact fxs
  obtain rfl := Option.some.inj h
  have h := q0
  simp only [Flow.go_out, Flow.goL_out] at h
  try dsimp only at h
  obtain rfl := Option.some.inj h
  exact fin
end Go.Ax
