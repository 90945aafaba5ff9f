/- The walk of novationlaw26_known, printed by gen.py. -/
import Derived.Test.YtjmoeebaehjmnaaGa
import Derived.Test.YtjmoeebaehjmnaaGs
import Derived.Test.YtjmoeebaehjmnaaWa
import Derived.Test.YtjmoeebaehjmnaaWe
import Derived.Test.YtjmoeebaehjmnaaWi
set_option linter.unusedVariables false
set_option linter.unusedSimpArgs false
set_option linter.unusedSimpArgs false
set_option linter.unusedVariables false
namespace Go.Ax
open Go Go.Proofs
set_option maxRecDepth 100000
set_option maxHeartbeats 4000000
theorem novationlaw26_known.spec {r : Bool} (h : novationlaw26_known.f = some r) : FSpec Try.prog 5 [] [.one (.d (.v (.bool r)))] := by
  unfold novationlaw26_known.f at h
  refine fspec_data mixed Try.func5 rfl (by decide) [0, 1, 2, 3, 4, 5, 6, 7, 8] (rs := [.tmp 0]) rfl (by decide) (n := 63) rfl (by simp) ?_
  refine wgo ?_
  repeat refine cj ?_
  obtain ⟨y1_0, hy1_0, h⟩ := bd h
  refine aCall_of (novationlaw26_small.spec hy1_0) ?_
  refine wgo ?_
  repeat refine cj ?_
  obtain ⟨y2_4, hy2_4, h⟩ := bd h
  have e := rank_Deeds.spec hy2_4
  simp only [go_sem, List.map_set, rowsD_append, rowsD_cons, rowsD_nil, rowsD_set, rowsD_take, rowsD_drop, rowsD_replicate] at e
  refine aCall_of e ?_
  refine wgo ?_
  repeat refine cj ?_
  obtain ⟨y3_3, hy3_3, h⟩ := bd h
  refine aCall_of (rank_Tranche.spec hy3_3) ?_
  refine wgo ?_
  repeat refine cj ?_
  refine kIf2 h (fun hb h => ?_) (fun hb h => ?_)
  refine wgo ?_
  repeat refine cj ?_
  obtain ⟨y4_8, hy4_8, h⟩ := bd h
  have e := novationhelp_Deeds.spec hy4_8
  simp only [go_sem, List.map_set, rowsD_append, rowsD_cons, rowsD_nil, rowsD_set, rowsD_take, rowsD_drop, rowsD_replicate] at e
  refine aCall_of e ?_
  refine wgo ?_
  repeat refine cj ?_
  refine kIf2 h (fun hb h => ?_) (fun hb h => ?_)
  refine wgo ?_
  repeat refine cj ?_
  refine kIf2 h (fun hb h => ?_) (fun hb h => ?_)
  refine wgo ?_
  repeat refine cj ?_
  obtain ⟨y4_17, hy4_17, h⟩ := bd h
  have e := novationhelp_Nums.spec hy4_17
  simp only [go_sem, List.map_set, rowsD_append, rowsD_cons, rowsD_nil, rowsD_set, rowsD_take, rowsD_drop, rowsD_replicate] at e
  refine aCall_of e ?_
  refine wgo ?_
  repeat refine cj ?_
  refine kIf2 h (fun hb h => ?_) (fun hb h => ?_)
  refine wgo ?_
  repeat refine cj ?_
  obtain ⟨y4_21, hy4_21, h⟩ := bd h
  refine aCall_of (rank_Class.spec hy4_21) ?_
  refine wgo ?_
  repeat refine cj ?_
  refine kIf2 h (fun hb h => ?_) (fun hb h => ?_)
  refine wgo ?_
  repeat refine cj ?_
  obtain ⟨y4_26, hy4_26, h⟩ := bd h
  refine aCall_of (rank_Class.spec hy4_26) ?_
  refine wgo ?_
  repeat refine cj ?_
  refine kIf2 h (fun hb h => ?_) (fun hb h => ?_)
  refine wgo ?_
  repeat refine cj ?_
  obtain ⟨y4_31, hy4_31, h⟩ := bd h
  refine aCall_of (rank_Right.spec hy4_31) ?_
  obtain rfl := Option.some.inj h
  exact fin
  obtain rfl := Option.some.inj h
  exact fin
  obtain rfl := Option.some.inj h
  exact fin
  obtain rfl := Option.some.inj h
  exact fin
  obtain rfl := Option.some.inj h
  exact fin
  obtain rfl := Option.some.inj h
  exact fin
  obtain rfl := Option.some.inj h
  exact fin
end Go.Ax

/- The walk of novationref26_RightDeeds, printed by gen.py. -/
set_option linter.unusedSimpArgs false
set_option linter.unusedVariables false
namespace Go.Ax
open Go Go.Proofs
set_option maxRecDepth 100000
set_option maxHeartbeats 4000000
theorem novationref26_RightDeeds.spec {a0 : List api_Deed} {r : Bool} (h : novationref26_RightDeeds.f a0 = some r) : FSpec Try.prog 19 [(false, [.l (rowsD api_Deed.D a0)])] [.one (.d (.v (.bool r)))] := by
  unfold novationref26_RightDeeds.f at h
  refine fspec_data mixed Try.func19 rfl (by decide) [0, 2, 3] (rs := [.tmp 2]) rfl (by decide) (n := 58) rfl (by simp) ?_
  refine wgo ?_
  repeat refine cj ?_
  obtain ⟨f0, h0, q0⟩ := bd h
  rw [aCode_loop]
  refine aLoop_fx (α := Nat × Int) (fun p => (⟨58, [], [(0, .one (.l (rowsD api_Deed.D a0))), (2, .one (.v (.bool false))), (3, .one (.v (.int .i64 p.2)))]⟩ : S)) (fun p => novationref26_RightDeeds.l0 a0 p.1 p.2 = some f0) (fun p => p.1) (FUEL, 0) h0 ?_ ?_
  exact fxs
  rintro ⟨k0, x3_0⟩ h
  simp only at h
  obtain _ | k0 := k0
  exact absurd h (by simp [novationref26_RightDeeds.l0])
  rw [novationref26_RightDeeds.l0] at h
  refine wgo ?_
  repeat refine cj ?_
  refine kIf2 h (fun hb h => ?_) (fun hb h => ?_)
  obtain ⟨⟨hg4_2_0, hg4_2_1⟩, h⟩ := gd h
  refine wgo ?_
  repeat refine cj ?_
  refine kIf3 h (fun hb h => ?_) (fun hb h => ?_)
  refine wgo ?_
  repeat refine cj ?_
  refine kIf3 h (fun hb h => ?_) (fun hb h => ?_)
  refine wgo ?_
  repeat refine cj ?_
  refine kIf3 h (fun hb h => ?_) (fun hb h => ?_)
  refine wgo ?_
  repeat refine cj ?_
  refine kIf3 h (fun hb h => ?_) (fun hb h => ?_)
  refine wgo ?_
  repeat refine cj ?_
  refine kIf2 h (fun hb h => ?_) (fun hb h => ?_)
  obtain ⟨⟨hg4_42_0, hg4_42_1⟩, h⟩ := gd h
  refine wgo ?_
  repeat refine cj ?_
  refine kIf2 h (fun hb h => ?_) (fun hb h => ?_)
  obtain rfl := Option.some.inj h
  have h := q0
  simp only [Flow.go_ret, Flow.goL_ret] at h
  obtain rfl := Option.some.inj h
  exact fin
  refine wgo ?_
  repeat refine cj ?_
  refine Round.fx (k0, IntKind.i64.wrap (x3_0 + 1)) h (Nat.lt_succ_self k0) ?_
  exact fxs
  refine wgo ?_
  repeat refine cj ?_
  refine Round.fx (k0, IntKind.i64.wrap (x3_0 + 1)) h (Nat.lt_succ_self k0) ?_
  exact fxs
  obtain rfl := Option.some.inj h
  have h := q0
  simp only [Flow.go_ret, Flow.goL_ret] at h
  obtain rfl := Option.some.inj h
  exact fin
  obtain rfl := Option.some.inj h
  have h := q0
  simp only [Flow.go_ret, Flow.goL_ret] at h
  obtain rfl := Option.some.inj h
  exact fin
  obtain rfl := Option.some.inj h
  have h := q0
  simp only [Flow.go_ret, Flow.goL_ret] at h
  obtain rfl := Option.some.inj h
  exact fin
  obtain rfl := Option.some.inj h
  have h := q0
  simp only [Flow.go_ret, Flow.goL_ret] at h
  obtain rfl := Option.some.inj h
  exact fin
  obtain rfl := Option.some.inj h
  have h := q0
  simp only [Flow.go_out, Flow.goL_out] at h
  try dsimp only at h
  obtain rfl := Option.some.inj h
  exact fin
end Go.Ax

/- The walk of novationref26_Class, printed by gen.py. -/
set_option linter.unusedSimpArgs false
set_option linter.unusedVariables false
namespace Go.Ax
open Go Go.Proofs
set_option maxRecDepth 100000
set_option maxHeartbeats 4000000
theorem novationref26_Class.spec {a0 : List api_Deed} {a1 : Int} {r : Int} (h : novationref26_Class.f a0 a1 = some r) : FSpec Try.prog 18 [(false, [.l (rowsD api_Deed.D a0)]), (false, [.v (.int .i64 a1)])] [.one (.d (.v (.int .i64 r)))] := by
  unfold novationref26_Class.f at h
  refine fspec_data mixed Try.func18 rfl (by decide) [0, 1, 4, 5] (rs := [.tmp 4]) rfl (by decide) (n := 27) rfl (by simp) ?_
  refine wgo ?_
  repeat refine cj ?_
  obtain ⟨y1_1, hy1_1, h⟩ := bd h
  refine aCall_of (novationref26_RightDeeds.spec hy1_1) ?_
  refine wgo ?_
  repeat refine cj ?_
  refine kIf2 h (fun hb h => ?_) (fun hb h => ?_)
  obtain rfl := Option.some.inj h
  exact fin
  refine wgo ?_
  repeat refine cj ?_
  obtain ⟨f1, h1, q1⟩ := bd h
  rw [aCode_loop]
  refine aLoop_fx (α := Nat × Int) (fun p => (⟨27, [], [(0, .one (.l (rowsD api_Deed.D a0))), (1, .one (.v (.int .i64 a1))), (4, .one (.v (.int .i64 0))), (5, .one (.v (.int .i64 p.2)))]⟩ : S)) (fun p => novationref26_Class.l0 a0 a1 p.1 p.2 = some f1) (fun p => p.1) (FUEL, 0) h1 ?_ ?_
  exact fxs
  rintro ⟨k1, x5_1⟩ h
  simp only at h
  obtain _ | k1 := k1
  exact absurd h (by simp [novationref26_Class.l0])
  rw [novationref26_Class.l0] at h
  refine wgo ?_
  repeat refine cj ?_
  refine kIf2 h (fun hb h => ?_) (fun hb h => ?_)
  obtain ⟨⟨hg6_2_0, hg6_2_1⟩, h⟩ := gd h
  refine wgo ?_
  repeat refine cj ?_
  refine kIf2 h (fun hb h => ?_) (fun hb h => ?_)
  obtain rfl := Option.some.inj h
  have h := q1
  simp only [Flow.go_ret, Flow.goL_ret] at h
  obtain rfl := Option.some.inj h
  exact fin
  refine wgo ?_
  repeat refine cj ?_
  refine Round.fx (k1, IntKind.i64.wrap (x5_1 + 1)) h (Nat.lt_succ_self k1) ?_
  exact fxs
  obtain rfl := Option.some.inj h
  have h := q1
  simp only [Flow.go_out, Flow.goL_out] at h
  try dsimp only at h
  obtain rfl := Option.some.inj h
  exact fin
end Go.Ax

/- The walk of novationref20_RightBid, printed by gen.py. -/
set_option linter.unusedSimpArgs false
set_option linter.unusedVariables false
namespace Go.Ax
open Go Go.Proofs
set_option maxRecDepth 100000
set_option maxHeartbeats 4000000
theorem novationref20_RightBid.spec {a0 : api_Bid} {r : Bool} (h : novationref20_RightBid.f a0 = some r) : FSpec Try.prog 82 [(true, api_Bid.D a0)] [.one (.d (.v (.bool r)))] := by
  unfold novationref20_RightBid.f at h
  refine fspec_data mixed Try.func82 rfl (by decide) [0, 1, 2] (rs := [.tmp 2]) rfl (by decide) (n := 41) rfl (by simp) ?_
  refine wgo ?_
  repeat refine cj ?_
  refine kIf2 h (fun hb h => ?_) (fun hb h => ?_)
  refine wgo ?_
  repeat refine cj ?_
  refine kIf2 h (fun hb h => ?_) (fun hb h => ?_)
  refine wgo ?_
  repeat refine cj ?_
  refine kIf2 h (fun hb h => ?_) (fun hb h => ?_)
  refine wgo ?_
  repeat refine cj ?_
  refine kIf2 h (fun hb h => ?_) (fun hb h => ?_)
  refine wgo ?_
  repeat refine cj ?_
  refine kIf2 h (fun hb h => ?_) (fun hb h => ?_)
  refine wgo ?_
  repeat refine cj ?_
  refine kIf2 h (fun hb h => ?_) (fun hb h => ?_)
  refine wgo ?_
  repeat refine cj ?_
  refine kIf2 h (fun hb h => ?_) (fun hb h => ?_)
  obtain rfl := Option.some.inj h
  exact fin
  obtain rfl := Option.some.inj h
  exact fin
  obtain rfl := Option.some.inj h
  exact fin
  obtain rfl := Option.some.inj h
  exact fin
  obtain rfl := Option.some.inj h
  exact fin
  obtain rfl := Option.some.inj h
  exact fin
  obtain rfl := Option.some.inj h
  exact fin
  obtain rfl := Option.some.inj h
  exact fin
end Go.Ax

/- The walk of novationref20_RightBids, printed by gen.py. -/
set_option linter.unusedSimpArgs false
set_option linter.unusedVariables false
namespace Go.Ax
open Go Go.Proofs
set_option maxRecDepth 100000
set_option maxHeartbeats 4000000
theorem novationref20_RightBids.spec {a0 : List api_Bid} {r : Bool} (h : novationref20_RightBids.f a0 = some r) : FSpec Try.prog 42 [(false, [.l (rowsD api_Bid.D a0)])] [.one (.d (.v (.bool r)))] := by
  unfold novationref20_RightBids.f at h
  refine fspec_data mixed Try.func42 rfl (by decide) [0, 2, 3, 4] (rs := [.tmp 2]) rfl (by decide) (n := 67) rfl (by simp) ?_
  refine wgo ?_
  repeat refine cj ?_
  refine kIf2 h (fun hb h => ?_) (fun hb h => ?_)
  obtain rfl := Option.some.inj h
  exact fin
  refine wgo ?_
  repeat refine cj ?_
  obtain ⟨f1, h1, q1⟩ := bd h
  rw [aCode_loop]
  refine aLoop_fx (α := Nat × Int) (fun p => (⟨67, [], [(0, .one (.l (rowsD api_Bid.D a0))), (2, .one (.v (.bool false))), (3, .one (.v (.int .i64 p.2))), (4, .none)]⟩ : S)) (fun p => novationref20_RightBids.l0 a0 p.1 p.2 = some f1) (fun p => p.1) (FUEL, 0) h1 ?_ ?_
  exact fxs
  rintro ⟨k1, x3_1⟩ h
  simp only at h
  obtain _ | k1 := k1
  exact absurd h (by simp [novationref20_RightBids.l0])
  rw [novationref20_RightBids.l0] at h
  refine wgo ?_
  repeat refine cj ?_
  refine kIf2 h (fun hb h => ?_) (fun hb h => ?_)
  obtain ⟨⟨hg6_2_0, hg6_2_1⟩, h⟩ := gd h
  refine wgo ?_
  repeat refine cj ?_
  obtain ⟨y6_4, hy6_4, h⟩ := bd h
  have e := novationref20_RightBid.spec hy6_4
  simp only [go_sem, List.map_set, rowsD_append, rowsD_cons, rowsD_nil, rowsD_set, rowsD_take, rowsD_drop, rowsD_replicate] at e
  refine aCall_of e ?_
  refine wgo ?_
  repeat refine cj ?_
  refine kIf3 h (fun hb h => ?_) (fun hb h => ?_)
  refine wgo ?_
  repeat refine cj ?_
  refine kIf2 h (fun hb h => ?_) (fun hb h => ?_)
  obtain ⟨⟨hg6_18_0, hg6_18_1⟩, h⟩ := gd h
  refine wgo ?_
  repeat refine cj ?_
  refine kIf2 h (fun hb h => ?_) (fun hb h => ?_)
  obtain rfl := Option.some.inj h
  have h := q1
  simp only [Flow.go_ret, Flow.goL_ret] at h
  obtain rfl := Option.some.inj h
  exact fin
  refine wgo ?_
  repeat refine cj ?_
  obtain ⟨f4, h4, q4⟩ := bd h
  rw [aCode_loop]
  refine aLoop_fx (α := Nat × Int) (fun p => (⟨67, [], [(0, .one (.l (rowsD api_Bid.D a0))), (2, .one (.v (.bool false))), (3, .one (.v (.int .i64 x3_1))), (4, .one (.v (.int .i64 p.2)))]⟩ : S)) (fun p => novationref20_RightBids.l1 a0 x3_1 p.1 p.2 = some f4) (fun p => p.1) (FUEL, 0) h4 ?_ ?_
  exact fxs
  rintro ⟨k4, x4_4⟩ h
  simp only at h
  obtain _ | k4 := k4
  exact absurd h (by simp [novationref20_RightBids.l1])
  rw [novationref20_RightBids.l1] at h
  refine wgo ?_
  repeat refine cj ?_
  refine kIf2 h (fun hb h => ?_) (fun hb h => ?_)
  obtain ⟨⟨hg11_2_0, hg11_2_1⟩, h⟩ := gd h
  refine wgo ?_
  repeat refine cj ?_
  refine kIf2 h (fun hb h => ?_) (fun hb h => ?_)
  refine wgo ?_
  repeat refine cj ?_
  refine kIf2 h (fun hb h => ?_) (fun hb h => ?_)
  obtain rfl := Option.some.inj h
  have h := q4
  simp only [Flow.go_ret, Flow.goL_ret] at h
  obtain rfl := Option.some.inj h
  have h := q1
  simp only [Flow.go_ret, Flow.goL_ret] at h
  obtain rfl := Option.some.inj h
  exact fin
  refine wgo ?_
  repeat refine cj ?_
  refine Round.fx (k4, IntKind.i64.wrap (x4_4 + 1)) h (Nat.lt_succ_self k4) ?_
  exact fxs
  refine wgo ?_
  repeat refine cj ?_
  refine Round.fx (k4, IntKind.i64.wrap (x4_4 + 1)) h (Nat.lt_succ_self k4) ?_
  exact fxs
  obtain rfl := Option.some.inj h
  have h := q4
  simp only [Flow.go_out, Flow.goL_out] at h
  try dsimp only at h
  refine wgo ?_
  repeat refine cj ?_
  refine Round.fx (k1, IntKind.i64.wrap (x3_1 + 1)) h (Nat.lt_succ_self k1) ?_
  exact fxs
  refine wgo ?_
  repeat refine cj ?_
  obtain ⟨f4, h4, q4⟩ := bd h
  rw [aCode_loop]
  refine aLoop_fx (α := Nat × Int) (fun p => (⟨67, [], [(0, .one (.l (rowsD api_Bid.D a0))), (2, .one (.v (.bool false))), (3, .one (.v (.int .i64 x3_1))), (4, .one (.v (.int .i64 p.2)))]⟩ : S)) (fun p => novationref20_RightBids.l2 a0 x3_1 p.1 p.2 = some f4) (fun p => p.1) (FUEL, 0) h4 ?_ ?_
  exact fxs
  rintro ⟨k4, x4_4⟩ h
  simp only at h
  obtain _ | k4 := k4
  exact absurd h (by simp [novationref20_RightBids.l2])
  rw [novationref20_RightBids.l2] at h
  refine wgo ?_
  repeat refine cj ?_
  refine kIf2 h (fun hb h => ?_) (fun hb h => ?_)
  obtain ⟨⟨hg11_2_0, hg11_2_1⟩, h⟩ := gd h
  refine wgo ?_
  repeat refine cj ?_
  refine kIf2 h (fun hb h => ?_) (fun hb h => ?_)
  refine wgo ?_
  repeat refine cj ?_
  refine kIf2 h (fun hb h => ?_) (fun hb h => ?_)
  obtain rfl := Option.some.inj h
  have h := q4
  simp only [Flow.go_ret, Flow.goL_ret] at h
  obtain rfl := Option.some.inj h
  have h := q1
  simp only [Flow.go_ret, Flow.goL_ret] at h
  obtain rfl := Option.some.inj h
  exact fin
  refine wgo ?_
  repeat refine cj ?_
  refine Round.fx (k4, IntKind.i64.wrap (x4_4 + 1)) h (Nat.lt_succ_self k4) ?_
  exact fxs
  refine wgo ?_
  repeat refine cj ?_
  refine Round.fx (k4, IntKind.i64.wrap (x4_4 + 1)) h (Nat.lt_succ_self k4) ?_
  exact fxs
  obtain rfl := Option.some.inj h
  have h := q4
  simp only [Flow.go_out, Flow.goL_out] at h
  try dsimp only at h
  refine wgo ?_
  repeat refine cj ?_
  refine Round.fx (k1, IntKind.i64.wrap (x3_1 + 1)) h (Nat.lt_succ_self k1) ?_
  exact fxs
  obtain rfl := Option.some.inj h
  have h := q1
  simp only [Flow.go_ret, Flow.goL_ret] at h
  obtain rfl := Option.some.inj h
  exact fin
  obtain rfl := Option.some.inj h
  have h := q1
  simp only [Flow.go_out, Flow.goL_out] at h
  try dsimp only at h
  obtain rfl := Option.some.inj h
  exact fin
end Go.Ax

/- The walk of novationref4_within, printed by gen.py. -/
set_option linter.unusedSimpArgs false
set_option linter.unusedVariables false
namespace Go.Ax
open Go Go.Proofs
set_option maxRecDepth 100000
set_option maxHeartbeats 4000000
theorem novationref4_within.spec {a0 : Int} {a1 : Int} {a2 : Int} {r : Bool} (h : novationref4_within.f a0 a1 a2 = some r) : FSpec Try.prog 116 [(false, [.v (.int .i64 a0)]), (false, [.v (.int .i64 a1)]), (false, [.v (.int .i64 a2)])] [.one (.d (.v (.bool r)))] := by
  unfold novationref4_within.f at h
  refine fspec_data mixed Try.func116 rfl (by decide) [0, 1, 2, 6] (rs := [.tmp 6]) rfl (by decide) (n := 15) rfl (by simp) ?_
  refine wgo ?_
  repeat refine cj ?_
  refine kIf2 h (fun hb h => ?_) (fun hb h => ?_)
  obtain rfl := Option.some.inj h
  exact fin
  obtain rfl := Option.some.inj h
  exact fin
end Go.Ax
