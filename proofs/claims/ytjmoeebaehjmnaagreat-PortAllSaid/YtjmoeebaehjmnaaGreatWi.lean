/- The walk of novationref4_RightPlan, printed by gen.py. -/
import Derived.Test.YtjmoeebaehjmnaaGreatGa
import Derived.Test.YtjmoeebaehjmnaaGreatGs
import Derived.Test.YtjmoeebaehjmnaaGreatWh
set_option linter.unusedVariables false
set_option linter.unusedSimpArgs false
set_option linter.unusedSimpArgs false
set_option linter.unusedVariables false
namespace Go.Ax
open Go Go.Proofs
set_option maxRecDepth 100000
set_option maxHeartbeats 4000000
theorem novationref4_RightPlan.spec {a0 : api_Config} {r : Bool} (h : novationref4_RightPlan.f a0 = some r) : FSpec Tryz.prog 135 [(true, api_Config.D a0)] [.one (.d (.v (.bool r)))] := by
  unfold novationref4_RightPlan.f at h
  refine fspec_data mixed Tryz.func135 rfl (by decide) [0, 1, 2, 3, 4] (rs := [.tmp 2]) rfl (by decide) (n := 77) rfl (by simp) ?_
  refine wgo ?_
  repeat refine cj ?_
  refine kIf3 h (fun hb h => ?_) (fun hb h => ?_)
  refine wgo ?_
  repeat refine cj ?_
  refine kIf2 h (fun hb h => ?_) (fun hb h => ?_)
  obtain rfl := Option.some.inj h
  exact fin
  refine wgo ?_
  repeat refine cj ?_
  obtain ⟨f1, h1, q1⟩ := bd h
  rw [aCode_loop]
  refine aLoop_fx (α := Nat × Int) (fun p => (⟨77, [], [(0, .agg (api_Config.D a0)), (1, .box [.d (.l (rowsD api_Inst.D a0.Insts)), .d (.v (.int .i64 a0.Skin)), .d (.v (.int .i64 a0.Times)), .d (.v (.int .i64 a0.Port)), .d (.v (.int .i64 a0.Bid)), .d (.v (.int .i64 a0.LotSize)), .d (.v (.int .i64 a0.HedgeMin))]), (2, .one (.v (.bool false))), (3, .one (.v (.int .i64 p.2))), (4, .none)]⟩ : S)) (fun p => novationref4_RightPlan.l0 a0 p.1 p.2 = some f1) (fun p => p.1) (FUEL, 0) h1 ?_ ?_
  exact fxs
  rintro ⟨k1, x3_1⟩ h
  simp only at h
  obtain _ | k1 := k1
  exact absurd h (by simp [novationref4_RightPlan.l0])
  rw [novationref4_RightPlan.l0] at h
  refine wgo ?_
  repeat refine cj ?_
  refine kIf2 h (fun hb h => ?_) (fun hb h => ?_)
  obtain ⟨⟨hg6_3_0, hg6_3_1⟩, h⟩ := gd h
  refine wgo ?_
  repeat refine cj ?_
  obtain ⟨y7_2, hy7_2, h⟩ := bd h
  refine aCall_of (novationref4_within.spec hy7_2) ?_
  refine wgo ?_
  repeat refine cj ?_
  refine kIf3 h (fun hb h => ?_) (fun hb h => ?_)
  refine wgo ?_
  repeat refine cj ?_
  obtain ⟨y7_7, hy7_7, h⟩ := bd h
  refine aCall_of (novationref4_within.spec hy7_7) ?_
  refine wgo ?_
  repeat refine cj ?_
  refine kIf3 h (fun hb h => ?_) (fun hb h => ?_)
  refine wgo ?_
  repeat refine cj ?_
  obtain ⟨y7_13, hy7_13, h⟩ := bd h
  refine aCall_of (novationref4_within.spec hy7_13) ?_
  refine wgo ?_
  repeat refine cj ?_
  refine kIf3 h (fun hb h => ?_) (fun hb h => ?_)
  refine wgo ?_
  repeat refine cj ?_
  obtain ⟨y7_19, hy7_19, h⟩ := bd h
  refine aCall_of (novationref4_within.spec hy7_19) ?_
  refine wgo ?_
  repeat refine cj ?_
  refine kIf2 h (fun hb h => ?_) (fun hb h => ?_)
  obtain rfl := Option.some.inj h
  have h := q1
  simp only [Flow.go_ret, Flow.goL_ret] at h
  obtain rfl := Option.some.inj h
  exact fin
  refine wgo ?_
  repeat refine cj ?_
  refine Round.fx (k1, IntKind.i64.wrap (x3_1 + 1)) h (Nat.lt_succ_self k1) ?_
  exact fxs
  obtain rfl := Option.some.inj h
  have h := q1
  simp only [Flow.go_ret, Flow.goL_ret] at h
  obtain rfl := Option.some.inj h
  exact fin
  obtain rfl := Option.some.inj h
  have h := q1
  simp only [Flow.go_ret, Flow.goL_ret] at h
  obtain rfl := Option.some.inj h
  exact fin
  obtain rfl := Option.some.inj h
  have h := q1
  simp only [Flow.go_ret, Flow.goL_ret] at h
  obtain rfl := Option.some.inj h
  exact fin
  obtain rfl := Option.some.inj h
  have h := q1
  simp only [Flow.go_out, Flow.goL_out] at h
  try dsimp only at h
  refine wgo ?_
  repeat refine cj ?_
  refine kIf2 h (fun hb h => ?_) (fun hb h => ?_)
  refine wgo ?_
  repeat refine cj ?_
  obtain ⟨y9_6, hy9_6, h⟩ := bd h
  refine aCall_of (novationref4_within.spec hy9_6) ?_
  refine wgo ?_
  repeat refine cj ?_
  refine kIf2 h (fun hb h => ?_) (fun hb h => ?_)
  refine wgo ?_
  repeat refine cj ?_
  obtain ⟨y9_11, hy9_11, h⟩ := bd h
  refine aCall_of (novationref4_within.spec hy9_11) ?_
  refine wgo ?_
  repeat refine cj ?_
  refine kIf2 h (fun hb h => ?_) (fun hb h => ?_)
  refine wgo ?_
  repeat refine cj ?_
  obtain ⟨y9_16, hy9_16, h⟩ := bd h
  refine aCall_of (novationref4_within.spec hy9_16) ?_
  refine wgo ?_
  repeat refine cj ?_
  refine kIf2 h (fun hb h => ?_) (fun hb h => ?_)
  refine wgo ?_
  repeat refine cj ?_
  obtain ⟨y9_21, hy9_21, h⟩ := bd h
  refine aCall_of (novationref4_within.spec hy9_21) ?_
  refine wgo ?_
  repeat refine cj ?_
  refine kIf2 h (fun hb h => ?_) (fun hb h => ?_)
  obtain rfl := Option.some.inj h
  exact fin
  obtain rfl := Option.some.inj h
  exact fin
  obtain rfl := Option.some.inj h
  exact fin
  obtain rfl := Option.some.inj h
  exact fin
  obtain rfl := Option.some.inj h
  exact fin
  obtain rfl := Option.some.inj h
  exact fin
  obtain rfl := Option.some.inj h
  exact fin
end Go.Ax

/- The walk of novationref10_Legs, printed by gen.py. -/
set_option linter.unusedSimpArgs false
set_option linter.unusedVariables false
namespace Go.Ax
open Go Go.Proofs
set_option maxRecDepth 100000
set_option maxHeartbeats 4000000
theorem novationref10_Legs.spec {a0 : api_Config} {a1 : List api_Leg} {r : Bool} (h : novationref10_Legs.f a0 a1 = some r) : FSpec Tryz.prog 168 [(true, api_Config.D a0), (false, [.l (rowsD api_Leg.D a1)])] [.one (.d (.v (.bool r)))] := by
  unfold novationref10_Legs.f at h
  refine fspec_data mixed Tryz.func168 rfl (by decide) [0, 1, 2, 4, 5] (rs := [.tmp 4]) rfl (by decide) (n := 66) rfl (by simp) ?_
  refine wgo ?_
  repeat refine cj ?_
  obtain ⟨y1_1, hy1_1, h⟩ := bd h
  refine aCall_of (novationref4_RightPlan.spec hy1_1) ?_
  refine wgo ?_
  repeat refine cj ?_
  refine kIf2 h (fun hb h => ?_) (fun hb h => ?_)
  obtain rfl := Option.some.inj h
  exact fin
  refine wgo ?_
  repeat refine cj ?_
  obtain ⟨f1, h1, q1⟩ := bd h
  rw [aCode_loop]
  refine aLoop_fx (α := Nat × Int) (fun p => (⟨66, [], [(0, .agg (api_Config.D a0)), (1, .one (.l (rowsD api_Leg.D a1))), (2, .box [.d (.l (rowsD api_Inst.D a0.Insts)), .d (.v (.int .i64 a0.Skin)), .d (.v (.int .i64 a0.Times)), .d (.v (.int .i64 a0.Port)), .d (.v (.int .i64 a0.Bid)), .d (.v (.int .i64 a0.LotSize)), .d (.v (.int .i64 a0.HedgeMin))]), (4, .one (.v (.bool false))), (5, .one (.v (.int .i64 p.2)))]⟩ : S)) (fun p => novationref10_Legs.l0 a0 a1 p.1 p.2 = some f1) (fun p => p.1) (FUEL, 0) h1 ?_ ?_
  exact fxs
  rintro ⟨k1, x5_1⟩ h
  simp only at h
  obtain _ | k1 := k1
  exact absurd h (by simp [novationref10_Legs.l0])
  rw [novationref10_Legs.l0] at h
  refine wgo ?_
  repeat refine cj ?_
  refine kIf2 h (fun hb h => ?_) (fun hb h => ?_)
  obtain ⟨⟨hg6_2_0, hg6_2_1⟩, h⟩ := gd h
  refine wgo ?_
  repeat refine cj ?_
  refine kIf3 h (fun hb h => ?_) (fun hb h => ?_)
  refine wgo ?_
  repeat refine cj ?_
  refine kIf3 h (fun hb h => ?_) (fun hb h => ?_)
  refine wgo ?_
  repeat refine cj ?_
  refine kIf3 h (fun hb h => ?_) (fun hb h => ?_)
  refine wgo ?_
  repeat refine cj ?_
  refine kIf3 h (fun hb h => ?_) (fun hb h => ?_)
  refine wgo ?_
  repeat refine cj ?_
  refine kIf2 h (fun hb h => ?_) (fun hb h => ?_)
  obtain ⟨⟨hg6_45_0, hg6_45_1⟩, h⟩ := gd h
  refine wgo ?_
  repeat refine cj ?_
  refine kIf2 h (fun hb h => ?_) (fun hb h => ?_)
  obtain rfl := Option.some.inj h
  have h := q1
  simp only [Flow.go_ret, Flow.goL_ret] at h
  obtain rfl := Option.some.inj h
  exact fin
  refine wgo ?_
  repeat refine cj ?_
  refine Round.fx (k1, IntKind.i64.wrap (x5_1 + 1)) h (Nat.lt_succ_self k1) ?_
  exact fxs
  refine wgo ?_
  repeat refine cj ?_
  refine Round.fx (k1, IntKind.i64.wrap (x5_1 + 1)) h (Nat.lt_succ_self k1) ?_
  exact fxs
  obtain rfl := Option.some.inj h
  have h := q1
  simp only [Flow.go_ret, Flow.goL_ret] at h
  obtain rfl := Option.some.inj h
  exact fin
  obtain rfl := Option.some.inj h
  have h := q1
  simp only [Flow.go_ret, Flow.goL_ret] at h
  obtain rfl := Option.some.inj h
  exact fin
  obtain rfl := Option.some.inj h
  have h := q1
  simp only [Flow.go_ret, Flow.goL_ret] at h
  obtain rfl := Option.some.inj h
  exact fin
  obtain rfl := Option.some.inj h
  have h := q1
  simp only [Flow.go_ret, Flow.goL_ret] at h
  obtain rfl := Option.some.inj h
  exact fin
  obtain rfl := Option.some.inj h
  have h := q1
  simp only [Flow.go_out, Flow.goL_out] at h
  try dsimp only at h
  obtain rfl := Option.some.inj h
  exact fin
end Go.Ax

/- The walk of novationref10_byRate, printed by gen.py. -/
set_option linter.unusedSimpArgs false
set_option linter.unusedVariables false
namespace Go.Ax
open Go Go.Proofs
set_option maxRecDepth 100000
set_option maxHeartbeats 4000000
theorem novationref10_byRate.spec {a0 : api_Config} {a1 : List api_Leg} {a2 : Bool} {r : Int × Int} (h : novationref10_byRate.f a0 a1 a2 = some r) : FSpec Tryz.prog 144 [(true, api_Config.D a0), (false, [.l (rowsD api_Leg.D a1)]), (false, [.v (.bool a2)])] [.agg (bigDs r.1), .one (.d (.v (.int .i64 r.2)))] := by
  unfold novationref10_byRate.f at h
  refine fspec_data mixed Tryz.func144 rfl (by decide) [0, 1, 2, 3, 6, 7, 8, 9, 10] (rs := [.cell 6 112, .tmp 7]) rfl (by decide) (n := 56) rfl (by simp) ?_
  refine wgo ?_
  repeat refine cj ?_
  obtain ⟨y2_2, hy2_2, h⟩ := bd h
  refine aCall_of (novationref10_Legs.spec hy2_2) ?_
  refine wgo ?_
  repeat refine cj ?_
  refine kIf2 h (fun hb h => ?_) (fun hb h => ?_)
  obtain rfl := Option.some.inj h
  exact fin
  refine wgo ?_
  repeat refine cj ?_
  obtain ⟨s1, h1, q1⟩ := bd h
  rw [aCode_loop]
  refine aLoop_fx (α := Nat × Int × Int) (fun p => (⟨56, [], [(0, .agg (api_Config.D a0)), (1, .one (.l (rowsD api_Leg.D a1))), (2, .one (.v (.bool a2))), (3, .box [.d (.l (rowsD api_Inst.D a0.Insts)), .d (.v (.int .i64 a0.Skin)), .d (.v (.int .i64 a0.Times)), .d (.v (.int .i64 a0.Port)), .d (.v (.int .i64 a0.Bid)), .d (.v (.int .i64 a0.LotSize)), .d (.v (.int .i64 a0.HedgeMin))]), (6, .box [.d (.v (.bool (decide ((0 : Int) < 0)))), .d (.l (rowsU (digs (0 : Int).natAbs)))]), (7, .one (.v (.int .i64 0))), (8, .box [.d (.v (.bool (decide ((p.2.1 : Int) < 0)))), .d (.l (rowsU (digs (p.2.1 : Int).natAbs)))]), (9, .one (.v (.int .i64 p.2.2))), (10, .none)]⟩ : S)) (fun p => novationref10_byRate.l0 a0 a1 a2 p.1 p.2.1 p.2.2 = some s1) (fun p => p.1) (FUEL, 0, 0) h1 ?_ ?_
  exact fxs
  rintro ⟨k1, x8_1, x9_1⟩ h
  simp only at h
  obtain _ | k1 := k1
  exact absurd h (by simp [novationref10_byRate.l0])
  rw [novationref10_byRate.l0] at h
  refine wgo ?_
  repeat refine cj ?_
  refine kIf2 h (fun hb h => ?_) (fun hb h => ?_)
  obtain ⟨⟨hg7_4_0, hg7_4_1⟩, h⟩ := gd h
  obtain ⟨⟨hg7_7_0, hg7_7_1⟩, h⟩ := gd h
  refine wgo ?_
  repeat refine cj ?_
  refine kIf2 h (fun hb h => ?_) (fun hb h => ?_)
  refine wgo ?_
  repeat refine cj ?_
  obtain ⟨y10_6, hy10_6, h⟩ := bd h
  refine aCall_of (novationref1_Whole.spec hy10_6) ?_
  refine wgo ?_
  repeat refine cj ?_
  obtain ⟨y10_7, hy10_7, h⟩ := bd h
  refine aCall_of (novationref1_Sized.spec hy10_7) ?_
  refine wgo ?_
  repeat refine cj ?_
  obtain ⟨y10_9, hy10_9, h⟩ := bd h
  refine aCall_of (novationref1_Whole.spec hy10_9) ?_
  refine wgo ?_
  repeat refine cj ?_
  obtain ⟨y10_10, hy10_10, h⟩ := bd h
  refine aCall_of (novationref1_Times.spec hy10_10) ?_
  refine wgo ?_
  repeat refine cj ?_
  obtain ⟨y10_11, hy10_11, h⟩ := bd h
  refine aCall_of (novationref1_Plus.spec hy10_11) ?_
  refine wgo ?_
  repeat refine cj ?_
  refine Round.fx (k1, y10_11, IntKind.i64.wrap (x9_1 + 1)) h (Nat.lt_succ_self k1) ?_
  exact fxs
  refine wgo ?_
  repeat refine cj ?_
  obtain ⟨y10_6, hy10_6, h⟩ := bd h
  refine aCall_of (novationref1_Whole.spec hy10_6) ?_
  refine wgo ?_
  repeat refine cj ?_
  obtain ⟨y10_7, hy10_7, h⟩ := bd h
  refine aCall_of (novationref1_Sized.spec hy10_7) ?_
  refine wgo ?_
  repeat refine cj ?_
  obtain ⟨y10_9, hy10_9, h⟩ := bd h
  refine aCall_of (novationref1_Whole.spec hy10_9) ?_
  refine wgo ?_
  repeat refine cj ?_
  obtain ⟨y10_10, hy10_10, h⟩ := bd h
  refine aCall_of (novationref1_Times.spec hy10_10) ?_
  refine wgo ?_
  repeat refine cj ?_
  obtain ⟨y10_11, hy10_11, h⟩ := bd h
  refine aCall_of (novationref1_Plus.spec hy10_11) ?_
  refine wgo ?_
  repeat refine cj ?_
  refine Round.fx (k1, y10_11, IntKind.i64.wrap (x9_1 + 1)) h (Nat.lt_succ_self k1) ?_
  exact fxs
  obtain rfl := Option.some.inj h
  have h := q1
  try dsimp only at h
  obtain rfl := Option.some.inj h
  exact fin
end Go.Ax

/- The walk of novationref10_NeedOf, printed by gen.py. -/
set_option linter.unusedSimpArgs false
set_option linter.unusedVariables false
namespace Go.Ax
open Go Go.Proofs
set_option maxRecDepth 100000
set_option maxHeartbeats 4000000
theorem novationref10_NeedOf.spec {a0 : api_Config} {a1 : List api_Leg} {r : Int × Int} (h : novationref10_NeedOf.f a0 a1 = some r) : FSpec Tryz.prog 60 [(true, api_Config.D a0), (false, [.l (rowsD api_Leg.D a1)])] [.agg (bigDs r.1), .one (.d (.v (.int .i64 r.2)))] := by
  unfold novationref10_NeedOf.f at h
  refine fspec_data mixed Tryz.func60 rfl (by decide) [0, 1, 2, 4, 5] (rs := [.cell 4 112, .tmp 5]) rfl (by decide) (n := 11) rfl (by simp) ?_
  refine wgo ?_
  repeat refine cj ?_
  obtain ⟨y1_2, hy1_2, h⟩ := bd h
  refine aCall_of (novationref10_byRate.spec hy1_2) ?_
  obtain rfl := Option.some.inj h
  exact fin
end Go.Ax

/- The walk of novationref10_Stock, printed by gen.py. -/
set_option linter.unusedSimpArgs false
set_option linter.unusedVariables false
namespace Go.Ax
open Go Go.Proofs
set_option maxRecDepth 100000
set_option maxHeartbeats 4000000
theorem novationref10_Stock.spec {a0 : List api_Pos} {r : Bool} (h : novationref10_Stock.f a0 = some r) : FSpec Tryz.prog 145 [(false, [.l (rowsD api_Pos.D a0)])] [.one (.d (.v (.bool r)))] := by
  unfold novationref10_Stock.f at h
  refine fspec_data mixed Tryz.func145 rfl (by decide) [0, 2, 3, 4] (rs := [.tmp 2]) rfl (by decide) (n := 78) rfl (by simp) ?_
  refine wgo ?_
  repeat refine cj ?_
  obtain ⟨f0, h0, q0⟩ := bd h
  rw [aCode_loop]
  refine aLoop_fx (α := Nat × Int) (fun p => (⟨78, [], [(0, .one (.l (rowsD api_Pos.D a0))), (2, .one (.v (.bool false))), (3, .one (.v (.int .i64 p.2))), (4, .none)]⟩ : S)) (fun p => novationref10_Stock.l0 a0 p.1 p.2 = some f0) (fun p => p.1) (FUEL, 0) h0 ?_ ?_
  exact fxs
  rintro ⟨k0, x3_0⟩ h
  simp only at h
  obtain _ | k0 := k0
  exact absurd h (by simp [novationref10_Stock.l0])
  rw [novationref10_Stock.l0] at h
  refine wgo ?_
  repeat refine cj ?_
  refine kIf2 h (fun hb h => ?_) (fun hb h => ?_)
  obtain ⟨⟨hg4_2_0, hg4_2_1⟩, h⟩ := gd h
  refine wgo ?_
  repeat refine cj ?_
  refine kIf3 h (fun hb h => ?_) (fun hb h => ?_)
  refine wgo ?_
  repeat refine cj ?_
  refine kIf3 h (fun hb h => ?_) (fun hb h => ?_)
  refine wgo ?_
  repeat refine cj ?_
  refine kIf3 h (fun hb h => ?_) (fun hb h => ?_)
  refine wgo ?_
  repeat refine cj ?_
  refine kIf3 h (fun hb h => ?_) (fun hb h => ?_)
  refine wgo ?_
  repeat refine cj ?_
  refine kIf3 h (fun hb h => ?_) (fun hb h => ?_)
  refine wgo ?_
  repeat refine cj ?_
  refine kIf2 h (fun hb h => ?_) (fun hb h => ?_)
  obtain rfl := Option.some.inj h
  have h := q0
  simp only [Flow.go_ret, Flow.goL_ret] at h
  obtain rfl := Option.some.inj h
  exact fin
  refine wgo ?_
  repeat refine cj ?_
  refine kIf2 h (fun hb h => ?_) (fun hb h => ?_)
  obtain ⟨⟨hg7_8_0, hg7_8_1⟩, h⟩ := gd h
  refine wgo ?_
  repeat refine cj ?_
  refine kIf3 h (fun hb h => ?_) (fun hb h => ?_)
  refine wgo ?_
  repeat refine cj ?_
  refine kIf2 h (fun hb h => ?_) (fun hb h => ?_)
  refine wgo ?_
  repeat refine cj ?_
  refine kIf2 h (fun hb h => ?_) (fun hb h => ?_)
  obtain rfl := Option.some.inj h
  have h := q0
  simp only [Flow.go_ret, Flow.goL_ret] at h
  obtain rfl := Option.some.inj h
  exact fin
  refine wgo ?_
  repeat refine cj ?_
  refine Round.fx (k0, IntKind.i64.wrap (x3_0 + 1)) h (Nat.lt_succ_self k0) ?_
  exact fxs
  refine wgo ?_
  repeat refine cj ?_
  refine Round.fx (k0, IntKind.i64.wrap (x3_0 + 1)) h (Nat.lt_succ_self k0) ?_
  exact fxs
  obtain rfl := Option.some.inj h
  have h := q0
  simp only [Flow.go_ret, Flow.goL_ret] at h
  obtain rfl := Option.some.inj h
  exact fin
  refine wgo ?_
  repeat refine cj ?_
  refine Round.fx (k0, IntKind.i64.wrap (x3_0 + 1)) h (Nat.lt_succ_self k0) ?_
  exact fxs
  obtain rfl := Option.some.inj h
  have h := q0
  simp only [Flow.go_ret, Flow.goL_ret] at h
  obtain rfl := Option.some.inj h
  exact fin
  obtain rfl := Option.some.inj h
  have h := q0
  simp only [Flow.go_ret, Flow.goL_ret] at h
  obtain rfl := Option.some.inj h
  exact fin
  obtain rfl := Option.some.inj h
  have h := q0
  simp only [Flow.go_ret, Flow.goL_ret] at h
  obtain rfl := Option.some.inj h
  exact fin
  obtain rfl := Option.some.inj h
  have h := q0
  simp only [Flow.go_ret, Flow.goL_ret] at h
  obtain rfl := Option.some.inj h
  exact fin
  obtain rfl := Option.some.inj h
  have h := q0
  simp only [Flow.go_ret, Flow.goL_ret] at h
  obtain rfl := Option.some.inj h
  exact fin
  obtain rfl := Option.some.inj h
  have h := q0
  simp only [Flow.go_out, Flow.goL_out] at h
  try dsimp only at h
  obtain rfl := Option.some.inj h
  exact fin
end Go.Ax

/- The walk of novationref10_Of, printed by gen.py. -/
set_option linter.unusedSimpArgs false
set_option linter.unusedVariables false
namespace Go.Ax
open Go Go.Proofs
set_option maxRecDepth 100000
set_option maxHeartbeats 4000000
theorem novationref10_Of.spec {a0 : List api_Pos} {a1 : Int} {r : (List api_Leg)} (h : novationref10_Of.f a0 a1 = some r) : FSpec Tryz.prog 61 [(false, [.l (rowsD api_Pos.D a0)]), (false, [.v (.int .i64 a1)])] [.one (.d (.l (rowsD api_Leg.D r)))] := by
  unfold novationref10_Of.f at h
  refine fspec_data mixed Tryz.func61 rfl (by decide) [0, 1, 4, 5, 6] (rs := [.tmp 4]) rfl (by decide) (n := 39) rfl (by simp) ?_
  refine wgo ?_
  repeat refine cj ?_
  obtain ⟨y2_1, hy2_1, h⟩ := bd h
  refine aCall_of (novationref10_Stock.spec hy2_1) ?_
  refine wgo ?_
  repeat refine cj ?_
  refine kIf2 h (fun hb h => ?_) (fun hb h => ?_)
  obtain rfl := Option.some.inj h
  exact fin
  refine wgo ?_
  repeat refine cj ?_
  obtain ⟨s1, h1, q1⟩ := bd h
  rw [aCode_loop]
  refine aLoop_fx (α := Nat × (List api_Leg) × Int) (fun p => (⟨39, [], [(0, .one (.l (rowsD api_Pos.D a0))), (1, .one (.v (.int .i64 a1))), (4, .own 2 (rowsD api_Leg.D ([] : List api_Leg))), (5, .own 2 (rowsD api_Leg.D p.2.1)), (6, .one (.v (.int .i64 p.2.2)))]⟩ : S)) (fun p => novationref10_Of.l0 a0 a1 p.1 p.2.1 p.2.2 = some s1) (fun p => p.1) (FUEL, ([] : List api_Leg), 0) h1 ?_ ?_
  exact fxs
  rintro ⟨k1, x5_1, x6_1⟩ h
  simp only at h
  obtain _ | k1 := k1
  exact absurd h (by simp [novationref10_Of.l0])
  rw [novationref10_Of.l0] at h
  refine wgo ?_
  repeat refine cj ?_
  refine kIf2 h (fun hb h => ?_) (fun hb h => ?_)
  obtain ⟨⟨hg7_2_0, hg7_2_1⟩, h⟩ := gd h
  refine wgo ?_
  repeat refine cj ?_
  refine kIf2 h (fun hb h => ?_) (fun hb h => ?_)
  obtain ⟨hg8_13, h⟩ := gd h
  refine wgo ?_
  repeat refine cj ?_
  refine Round.fx (k1, x5_1 ++ ([(⟨(rd a0 x6_1).Inst, (rd a0 x6_1).Q⟩ : api_Leg)]), IntKind.i64.wrap (x6_1 + 1)) h (Nat.lt_succ_self k1) ?_
  exact fxs
  refine wgo ?_
  repeat refine cj ?_
  refine Round.fx (k1, x5_1, IntKind.i64.wrap (x6_1 + 1)) h (Nat.lt_succ_self k1) ?_
  exact fxs
  obtain rfl := Option.some.inj h
  have h := q1
  try dsimp only at h
  obtain rfl := Option.some.inj h
  exact fin
end Go.Ax
