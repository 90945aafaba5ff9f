/- The walk of novationhelp_Deeds, printed by gen.py. -/
import Derived.Test.YtjmoeebaehjmnaaGa
import Derived.Test.YtjmoeebaehjmnaaGs
set_option linter.unusedVariables false
set_option linter.unusedSimpArgs false
set_option linter.unusedSimpArgs false
set_option linter.unusedVariables false
namespace Go.Ax
open Go Go.Proofs
set_option maxRecDepth 100000
set_option maxHeartbeats 4000000
theorem novationhelp_Deeds.spec {a0 : List api_Deed} {a1 : List api_Deed} {r : Bool} (h : novationhelp_Deeds.f a0 a1 = some r) : FSpec Try.prog 12 [(false, [.l (rowsD api_Deed.D a0)]), (false, [.l (rowsD api_Deed.D a1)])] [.one (.d (.v (.bool r)))] := by
  unfold novationhelp_Deeds.f at h
  refine fspec_data mixed Try.func12 rfl (by decide) [0, 1, 4, 5] (rs := [.tmp 4]) rfl (by decide) (n := 26) rfl (by simp) ?_
  refine wgo ?_
  repeat refine cj ?_
  refine kIf2 h (fun hb h => ?_) (fun hb h => ?_)
  obtain rfl := Option.some.inj h
  exact fin
  refine wgo ?_
  repeat refine cj ?_
  obtain ⟨f1, h1, q1⟩ := bd h
  rw [aCode_loop]
  refine aLoop_fx (α := Nat × Int) (fun p => (⟨26, [], [(0, .one (.l (rowsD api_Deed.D a0))), (1, .one (.l (rowsD api_Deed.D a1))), (4, .one (.v (.bool false))), (5, .one (.v (.int .i64 p.2)))]⟩ : S)) (fun p => novationhelp_Deeds.l0 a0 a1 p.1 p.2 = some f1) (fun p => p.1) (FUEL, 0) h1 ?_ ?_
  exact fxs
  rintro ⟨k1, x5_1⟩ h
  simp only at h
  obtain _ | k1 := k1
  exact absurd h (by simp [novationhelp_Deeds.l0])
  rw [novationhelp_Deeds.l0] at h
  refine wgo ?_
  repeat refine cj ?_
  refine kIf2 h (fun hb h => ?_) (fun hb h => ?_)
  obtain ⟨⟨hg6_2_0, hg6_2_1⟩, h⟩ := gd h
  obtain ⟨⟨hg6_6_0, hg6_6_1⟩, h⟩ := gd h
  refine wgo ?_
  repeat refine cj ?_
  refine kIf2 h (fun hb h => ?_) (fun hb h => ?_)
  obtain rfl := Option.some.inj h
  have h := q1
  simp only [Flow.go_ret, Flow.goL_ret] at h
  obtain rfl := Option.some.inj h
  exact fin
  refine wgo ?_
  repeat refine cj ?_
  refine Round.fx (k1, IntKind.i64.wrap (x5_1 + 1)) h (Nat.lt_succ_self k1) ?_
  exact fxs
  obtain rfl := Option.some.inj h
  have h := q1
  simp only [Flow.go_out, Flow.goL_out] at h
  try dsimp only at h
  obtain rfl := Option.some.inj h
  exact fin
end Go.Ax

/- The walk of novationhelp_Nums, printed by gen.py. -/
set_option linter.unusedSimpArgs false
set_option linter.unusedVariables false
namespace Go.Ax
open Go Go.Proofs
set_option maxRecDepth 100000
set_option maxHeartbeats 4000000
theorem novationhelp_Nums.spec {a0 : List Int} {a1 : List Int} {r : Bool} (h : novationhelp_Nums.f a0 a1 = some r) : FSpec Try.prog 13 [(false, [.l (rowsD i64D a0)]), (false, [.l (rowsD i64D a1)])] [.one (.d (.v (.bool r)))] := by
  unfold novationhelp_Nums.f at h
  refine fspec_data mixed Try.func13 rfl (by decide) [0, 1, 4, 5] (rs := [.tmp 4]) rfl (by decide) (n := 26) rfl (by simp) ?_
  refine wgo ?_
  repeat refine cj ?_
  refine kIf2 h (fun hb h => ?_) (fun hb h => ?_)
  obtain rfl := Option.some.inj h
  exact fin
  refine wgo ?_
  repeat refine cj ?_
  obtain ⟨f1, h1, q1⟩ := bd h
  rw [aCode_loop]
  refine aLoop_fx (α := Nat × Int) (fun p => (⟨26, [], [(0, .one (.l (rowsD i64D a0))), (1, .one (.l (rowsD i64D a1))), (4, .one (.v (.bool false))), (5, .one (.v (.int .i64 p.2)))]⟩ : S)) (fun p => novationhelp_Nums.l0 a0 a1 p.1 p.2 = some f1) (fun p => p.1) (FUEL, 0) h1 ?_ ?_
  exact fxs
  rintro ⟨k1, x5_1⟩ h
  simp only at h
  obtain _ | k1 := k1
  exact absurd h (by simp [novationhelp_Nums.l0])
  rw [novationhelp_Nums.l0] at h
  refine wgo ?_
  repeat refine cj ?_
  refine kIf2 h (fun hb h => ?_) (fun hb h => ?_)
  obtain ⟨⟨hg6_2_0, hg6_2_1⟩, h⟩ := gd h
  obtain ⟨⟨hg6_6_0, hg6_6_1⟩, h⟩ := gd h
  refine wgo ?_
  repeat refine cj ?_
  refine kIf2 h (fun hb h => ?_) (fun hb h => ?_)
  obtain rfl := Option.some.inj h
  have h := q1
  simp only [Flow.go_ret, Flow.goL_ret] at h
  obtain rfl := Option.some.inj h
  exact fin
  refine wgo ?_
  repeat refine cj ?_
  refine Round.fx (k1, IntKind.i64.wrap (x5_1 + 1)) h (Nat.lt_succ_self k1) ?_
  exact fxs
  obtain rfl := Option.some.inj h
  have h := q1
  simp only [Flow.go_out, Flow.goL_out] at h
  try dsimp only at h
  obtain rfl := Option.some.inj h
  exact fin
end Go.Ax

/- The walk of novationlaw26_small, printed by gen.py. -/
set_option linter.unusedSimpArgs false
set_option linter.unusedVariables false
namespace Go.Ax
open Go Go.Proofs
set_option maxRecDepth 100000
set_option maxHeartbeats 4000000
theorem novationlaw26_small.spec {r : api_Config × api_Book × (List api_Lot) × (List api_Bid)} (h : novationlaw26_small.f = some r) : FSpec Try.prog 9 [] [.agg (api_Config.D r.1), .agg (api_Book.D r.2.1), .one (.d (.l (rowsD api_Lot.D r.2.2.1))), .one (.own 4 (rowsD api_Bid.D r.2.2.2))] := by
  unfold novationlaw26_small.f at h
  refine fspec_mix [false, false, false, true] mixed Try.func9 rfl (by decide) [0, 1, 2, 3, 4, 5, 6] (rs := [.cell 0 24, .cell 1 32, .tmp 2, .tmp 3]) rfl (by decide) (n := 33) rfl (by simp) ?_
  obtain rfl := Option.some.inj h
  exact fin
end Go.Ax

/- The walk of rank_Right, printed by gen.py. -/
set_option linter.unusedSimpArgs false
set_option linter.unusedVariables false
namespace Go.Ax
open Go Go.Proofs
set_option maxRecDepth 100000
set_option maxHeartbeats 4000000
theorem rank_Right.spec {a0 : List api_Deed} {r : Bool} (h : rank_Right.f a0 = some r) : FSpec Try.prog 15 [(false, [.l (rowsD api_Deed.D a0)])] [.one (.d (.v (.bool r)))] := by
  unfold rank_Right.f at h
  refine fspec_data mixed Try.func15 rfl (by decide) [0, 2, 3, 4, 5, 6, 7] (rs := [.tmp 2]) rfl (by decide) (n := 46) rfl (by simp) ?_
  refine wgo ?_
  repeat refine cj ?_
  obtain ⟨f0, h0, q0⟩ := bd h
  rw [aCode_loop]
  refine aLoop_fx (α := Nat × Int) (fun p => (⟨46, [], [(0, .one (.l (rowsD api_Deed.D a0))), (2, .one (.v (.bool false))), (3, .none), (4, .none), (5, .one (.l (rowsD api_Deed.D a0))), (6, .one (.v (.int .i64 (a0.length : Int)))), (7, .one (.v (.int .i64 p.2)))]⟩ : S)) (fun p => rank_Right.l0 a0 p.1 p.2 = some f0) (fun p => p.1) (FUEL, 0) h0 ?_ ?_
  exact fxs
  rintro ⟨k0, x7_0⟩ h
  simp only at h
  obtain _ | k0 := k0
  exact absurd h (by simp [rank_Right.l0])
  rw [rank_Right.l0] at h
  refine wgo ?_
  repeat refine cj ?_
  refine kIf2 h (fun hb h => ?_) (fun hb h => ?_)
  obtain ⟨⟨hg3_1_0, hg3_1_1⟩, h⟩ := gd h
  refine wgo ?_
  repeat refine cj ?_
  refine kIf3 h (fun hb h => ?_) (fun hb h => ?_)
  refine wgo ?_
  repeat refine cj ?_
  refine kIf3 h (fun hb h => ?_) (fun hb h => ?_)
  refine wgo ?_
  repeat refine cj ?_
  refine kIf3 h (fun hb h => ?_) (fun hb h => ?_)
  refine wgo ?_
  repeat refine cj ?_
  refine kIf3 h (fun hb h => ?_) (fun hb h => ?_)
  refine wgo ?_
  repeat refine cj ?_
  refine kIf2 h (fun hb h => ?_) (fun hb h => ?_)
  obtain ⟨⟨hg4_25_0, hg4_25_1⟩, h⟩ := gd h
  refine wgo ?_
  repeat refine cj ?_
  refine kIf2 h (fun hb h => ?_) (fun hb h => ?_)
  obtain rfl := Option.some.inj h
  have h := q0
  simp only [Flow.go_ret, Flow.goL_ret] at h
  obtain rfl := Option.some.inj h
  exact fin
  refine wgo ?_
  repeat refine cj ?_
  refine Round.fx (k0, IntKind.i64.wrap (x7_0 + 1)) h (Nat.lt_succ_self k0) ?_
  exact fxs
  refine wgo ?_
  repeat refine cj ?_
  refine Round.fx (k0, IntKind.i64.wrap (x7_0 + 1)) h (Nat.lt_succ_self k0) ?_
  exact fxs
  obtain rfl := Option.some.inj h
  have h := q0
  simp only [Flow.go_ret, Flow.goL_ret] at h
  obtain rfl := Option.some.inj h
  exact fin
  obtain rfl := Option.some.inj h
  have h := q0
  simp only [Flow.go_ret, Flow.goL_ret] at h
  obtain rfl := Option.some.inj h
  exact fin
  obtain rfl := Option.some.inj h
  have h := q0
  simp only [Flow.go_ret, Flow.goL_ret] at h
  obtain rfl := Option.some.inj h
  exact fin
  obtain rfl := Option.some.inj h
  have h := q0
  simp only [Flow.go_ret, Flow.goL_ret] at h
  obtain rfl := Option.some.inj h
  exact fin
  obtain rfl := Option.some.inj h
  have h := q0
  simp only [Flow.go_out, Flow.goL_out] at h
  try dsimp only at h
  obtain rfl := Option.some.inj h
  exact fin
end Go.Ax

/- The walk of rank_Class, printed by gen.py. -/
set_option linter.unusedSimpArgs false
set_option linter.unusedVariables false
namespace Go.Ax
open Go Go.Proofs
set_option maxRecDepth 100000
set_option maxHeartbeats 4000000
theorem rank_Class.spec {a0 : List api_Deed} {a1 : Int} {r : Int} (h : rank_Class.f a0 a1 = some r) : FSpec Try.prog 14 [(false, [.l (rowsD api_Deed.D a0)]), (false, [.v (.int .i64 a1)])] [.one (.d (.v (.int .i64 r)))] := by
  unfold rank_Class.f at h
  refine fspec_data mixed Try.func14 rfl (by decide) [0, 1, 4, 6, 10, 11, 12] (rs := [.tmp 4]) rfl (by decide) (n := 23) rfl (by simp) ?_
  refine wgo ?_
  repeat refine cj ?_
  obtain ⟨y1_1, hy1_1, h⟩ := bd h
  refine aCall_of (rank_Right.spec hy1_1) ?_
  refine wgo ?_
  repeat refine cj ?_
  refine kIf2 h (fun hb h => ?_) (fun hb h => ?_)
  obtain rfl := Option.some.inj h
  exact fin
  refine wgo ?_
  repeat refine cj ?_
  obtain ⟨f1, h1, q1⟩ := bd h
  rw [aCode_loop]
  refine aLoop_fx (α := Nat × Int) (fun p => (⟨23, [], [(0, .one (.l (rowsD api_Deed.D a0))), (1, .one (.v (.int .i64 a1))), (4, .one (.v (.int .i64 0))), (6, .none), (10, .one (.l (rowsD api_Deed.D a0))), (11, .one (.v (.int .i64 (a0.length : Int)))), (12, .one (.v (.int .i64 p.2)))]⟩ : S)) (fun p => rank_Class.l0 a0 a1 p.1 p.2 = some f1) (fun p => p.1) (FUEL, 0) h1 ?_ ?_
  exact fxs
  rintro ⟨k1, x12_1⟩ h
  simp only at h
  obtain _ | k1 := k1
  exact absurd h (by simp [rank_Class.l0])
  rw [rank_Class.l0] at h
  refine wgo ?_
  repeat refine cj ?_
  refine kIf2 h (fun hb h => ?_) (fun hb h => ?_)
  obtain ⟨⟨hg5_0_0, hg5_0_1⟩, h⟩ := gd h
  refine wgo ?_
  repeat refine cj ?_
  refine kIf2 h (fun hb h => ?_) (fun hb h => ?_)
  obtain rfl := Option.some.inj h
  have h := q1
  simp only [Flow.go_ret, Flow.goL_ret] at h
  obtain rfl := Option.some.inj h
  exact fin
  refine wgo ?_
  repeat refine cj ?_
  refine Round.fx (k1, IntKind.i64.wrap (x12_1 + 1)) h (Nat.lt_succ_self k1) ?_
  exact fxs
  obtain rfl := Option.some.inj h
  have h := q1
  simp only [Flow.go_out, Flow.goL_out] at h
  try dsimp only at h
  obtain rfl := Option.some.inj h
  exact fin
end Go.Ax

/- The walk of bid_Bid, printed by gen.py. -/
set_option linter.unusedSimpArgs false
set_option linter.unusedVariables false
namespace Go.Ax
open Go Go.Proofs
set_option maxRecDepth 100000
set_option maxHeartbeats 4000000
theorem bid_Bid.spec {a0 : api_Bid} {r : Bool} (h : bid_Bid.f a0 = some r) : FSpec Try.prog 65 [(true, api_Bid.D a0)] [.one (.d (.v (.bool r)))] := by
  unfold bid_Bid.f at h
  refine fspec_data mixed Try.func65 rfl (by decide) [0, 1, 2] (rs := [.tmp 2]) rfl (by decide) (n := 41) rfl (by simp) ?_
  refine wgo ?_
  repeat refine cj ?_
  refine kIf2 h (fun hb h => ?_) (fun hb h => ?_)
  refine wgo ?_
  repeat refine cj ?_
  refine kIf2 h (fun hb h => ?_) (fun hb h => ?_)
  refine wgo ?_
  repeat refine cj ?_
  refine kIf2 h (fun hb h => ?_) (fun hb h => ?_)
  refine wgo ?_
  repeat refine cj ?_
  refine kIf2 h (fun hb h => ?_) (fun hb h => ?_)
  refine wgo ?_
  repeat refine cj ?_
  refine kIf2 h (fun hb h => ?_) (fun hb h => ?_)
  refine wgo ?_
  repeat refine cj ?_
  refine kIf2 h (fun hb h => ?_) (fun hb h => ?_)
  refine wgo ?_
  repeat refine cj ?_
  refine kIf2 h (fun hb h => ?_) (fun hb h => ?_)
  obtain rfl := Option.some.inj h
  exact fin
  obtain rfl := Option.some.inj h
  exact fin
  obtain rfl := Option.some.inj h
  exact fin
  obtain rfl := Option.some.inj h
  exact fin
  obtain rfl := Option.some.inj h
  exact fin
  obtain rfl := Option.some.inj h
  exact fin
  obtain rfl := Option.some.inj h
  exact fin
  obtain rfl := Option.some.inj h
  exact fin
end Go.Ax

/- The walk of bid_twice_1, printed by gen.py. -/
set_option linter.unusedSimpArgs false
set_option linter.unusedVariables false
namespace Go.Ax
open Go Go.Proofs
set_option maxRecDepth 100000
set_option maxHeartbeats 4000000
theorem bid_twice_1.spec {a0 : api_Bid} {a1 : Int} {a2 : Int} {r : Bool} (h : bid_twice_1.f a0 a1 a2 = some r) : FSpec Try.prog 106 [(true, api_Bid.D a0), (false, [.p [.v (.int .i64 a1)]]), (false, [.p [.v (.int .i64 a2)]])] [.one (.d (.v (.bool r)))] := by
  unfold bid_twice_1.f at h
  refine fspec_data mixed Try.func106 rfl (by decide) [0, 1, 2, 3, 4] (rs := [.tmp 4]) rfl (by decide) (n := 15) rfl (by simp) ?_
  refine wgo ?_
  repeat refine cj ?_
  refine kIf2 h (fun hb h => ?_) (fun hb h => ?_)
  obtain rfl := Option.some.inj h
  exact fin
  obtain rfl := Option.some.inj h
  exact fin
end Go.Ax

/- The walk of slices_IndexFunc_api_Bid_bid_twice_1, printed by gen.py. -/
set_option linter.unusedSimpArgs false
set_option linter.unusedVariables false
namespace Go.Ax
open Go Go.Proofs
set_option maxRecDepth 100000
set_option maxHeartbeats 4000000
theorem slices_IndexFunc_api_Bid_bid_twice_1.spec {a0 : List api_Bid} {a1_0 : Int} {a1_1 : Int} {r : Int} (h : slices_IndexFunc_api_Bid_bid_twice_1.f a0 a1_0 a1_1 = some r) : FSpec Try.prog 68 [(false, [.l (rowsD api_Bid.D a0)]), (false, [.c 106 [.p [.v (.int .i64 a1_0)], .p [.v (.int .i64 a1_1)]]])] [.one (.d (.v (.int .i64 r)))] := by
  unfold slices_IndexFunc_api_Bid_bid_twice_1.f at h
  refine fspec_data mixed Try.func68 rfl (by decide) [0, 1, 4, 5, 7, 8] (rs := [.tmp 4]) rfl (by decide) (n := 19) rfl (by simp) ?_
  refine wgo ?_
  repeat refine cj ?_
  obtain ⟨f0, h0, q0⟩ := bd h
  rw [aCode_loop]
  refine aLoop_fx (α := Nat × Int) (fun p => (⟨19, [], [(0, .one (.l (rowsD api_Bid.D a0))), (1, .one (.c 106 [.p [.v (.int .i64 a1_0)], .p [.v (.int .i64 a1_1)]])), (4, .one (.v (.int .i64 0))), (5, .none), (7, .one (.v (.int .i64 (a0.length : Int)))), (8, .one (.v (.int .i64 p.2)))]⟩ : S)) (fun p => slices_IndexFunc_api_Bid_bid_twice_1.l0 a0 a1_0 a1_1 p.1 p.2 = some f0) (fun p => p.1) (FUEL, 0) h0 ?_ ?_
  exact fxs
  rintro ⟨k0, x8_0⟩ h
  simp only at h
  obtain _ | k0 := k0
  exact absurd h (by simp [slices_IndexFunc_api_Bid_bid_twice_1.l0])
  rw [slices_IndexFunc_api_Bid_bid_twice_1.l0] at h
  refine wgo ?_
  repeat refine cj ?_
  refine kIf2 h (fun hb h => ?_) (fun hb h => ?_)
  obtain ⟨⟨hg4_3_0, hg4_3_1⟩, h⟩ := gd h
  refine wgo ?_
  repeat refine cj ?_
  obtain ⟨y4_5, hy4_5, h⟩ := bd h
  have e := bid_twice_1.spec hy4_5
  simp only [go_sem, List.map_set, rowsD_append, rowsD_cons, rowsD_nil, rowsD_set, rowsD_take, rowsD_drop, rowsD_replicate] at e
  refine aCall_of e ?_
  refine wgo ?_
  repeat refine cj ?_
  refine kIf2 h (fun hb h => ?_) (fun hb h => ?_)
  obtain rfl := Option.some.inj h
  have h := q0
  simp only [Flow.go_ret, Flow.goL_ret] at h
  obtain rfl := Option.some.inj h
  exact fin
  refine wgo ?_
  repeat refine cj ?_
  refine Round.fx (k0, IntKind.i64.wrap (x8_0 + 1)) h (Nat.lt_succ_self k0) ?_
  exact fxs
  obtain rfl := Option.some.inj h
  have h := q0
  simp only [Flow.go_out, Flow.goL_out] at h
  try dsimp only at h
  obtain rfl := Option.some.inj h
  exact fin
end Go.Ax

/- The walk of slices_ContainsFunc_api_Bid_bid_twice_1, printed by gen.py. -/
set_option linter.unusedSimpArgs false
set_option linter.unusedVariables false
namespace Go.Ax
open Go Go.Proofs
set_option maxRecDepth 100000
set_option maxHeartbeats 4000000
theorem slices_ContainsFunc_api_Bid_bid_twice_1.spec {a0 : List api_Bid} {a1_0 : Int} {a1_1 : Int} {r : Bool} (h : slices_ContainsFunc_api_Bid_bid_twice_1.f a0 a1_0 a1_1 = some r) : FSpec Try.prog 34 [(false, [.l (rowsD api_Bid.D a0)]), (false, [.c 106 [.p [.v (.int .i64 a1_0)], .p [.v (.int .i64 a1_1)]]])] [.one (.d (.v (.bool r)))] := by
  unfold slices_ContainsFunc_api_Bid_bid_twice_1.f at h
  refine fspec_data mixed Try.func34 rfl (by decide) [0, 1, 4] (rs := [.tmp 4]) rfl (by decide) (n := 9) rfl (by simp) ?_
  refine wgo ?_
  repeat refine cj ?_
  obtain ⟨y1_2, hy1_2, h⟩ := bd h
  refine aCall_of (slices_IndexFunc_api_Bid_bid_twice_1.spec hy1_2) ?_
  obtain rfl := Option.some.inj h
  exact fin
end Go.Ax

/- The walk of bid_twice, printed by gen.py. -/
set_option linter.unusedSimpArgs false
set_option linter.unusedVariables false
namespace Go.Ax
open Go Go.Proofs
set_option maxRecDepth 100000
set_option maxHeartbeats 4000000
theorem bid_twice.spec {a0 : List api_Bid} {a1 : Int} {a2 : Int} {r : Bool} (h : bid_twice.f a0 a1 a2 = some r) : FSpec Try.prog 66 [(false, [.l (rowsD api_Bid.D a0)]), (false, [.v (.int .i64 a1)]), (false, [.v (.int .i64 a2)])] [.one (.d (.v (.bool r)))] := by
  unfold bid_twice.f at h
  refine fspec_data mixed Try.func66 rfl (by decide) [0, 1, 2, 4, 5, 6] (rs := [.tmp 6]) rfl (by decide) (n := 10) rfl (by simp) ?_
  refine wgo ?_
  repeat refine cj ?_
  obtain ⟨y1_2, hy1_2, h⟩ := bd h
  refine aCall_of (slices_ContainsFunc_api_Bid_bid_twice_1.spec hy1_2) ?_
  obtain rfl := Option.some.inj h
  exact fin
end Go.Ax
