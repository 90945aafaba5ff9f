/- The walk of novationref10_Shifted, printed by gen.py. -/
import Derived.Test.YtmpbhgofllbejaaGa
import Derived.Test.YtmpbhgofllbejaaGs
import Derived.Test.YtmpbhgofllbejaaWa
set_option linter.unusedVariables false
set_option linter.unusedSimpArgs false
set_option linter.unusedSimpArgs false
set_option linter.unusedVariables false
namespace Go.Ax
open Go Go.Proofs
set_option maxRecDepth 100000
set_option maxHeartbeats 4000000
theorem novationref10_Shifted.spec {a0 : List api_Pos} {a1 : List api_Shift} {r : (List api_Pos) × Bool} (h : novationref10_Shifted.f a0 a1 = some r) : FSpec Try.prog 140 [(false, [.l (rowsD api_Pos.D a0)]), (false, [.l (rowsD api_Shift.D a1)])] [.one (.d (.l (rowsD api_Pos.D r.1))), .one (.d (.v (.bool r.2)))] := by
  unfold novationref10_Shifted.f at h
  refine fspec_data mixed Try.func140 rfl (by decide) [0, 1, 4, 5, 6, 7, 8, 9, 10, 11, 12, 13, 14, 15] (rs := [.tmp 4, .tmp 5]) rfl (by decide) (n := 106) rfl (by simp) ?_
  refine wgo ?_
  repeat refine cj ?_
  obtain ⟨f0, h0, q0⟩ := bd h
  rw [aCode_loop]
  refine aLoop_fx (α := Nat × (List api_Pos) × Int × Int) (fun p => (⟨106, [], [(0, .one (.l (rowsD api_Pos.D a0))), (1, .one (.l (rowsD api_Shift.D a1))), (4, .own 3 (rowsD api_Pos.D ([] : List api_Pos))), (5, .one (.v (.bool false))), (6, .own 3 (rowsD api_Pos.D p.2.1)), (7, .one (.v (.int .i64 p.2.2.1))), (8, .one (.v (.int .i64 p.2.2.2))), (9, .none), (10, .none), (11, .none), (12, .none), (13, .none), (14, .none), (15, .none)]⟩ : S)) (fun p => novationref10_Shifted.l0 a0 a1 p.1 p.2.1 p.2.2.1 p.2.2.2 = some f0) (fun p => p.1) (FUEL, ([] : List api_Pos), 0, 0) h0 ?_ ?_
  exact fxs
  rintro ⟨k0, x6_0, x7_0, x8_0⟩ h
  simp only at h
  obtain _ | k0 := k0
  exact absurd h (by simp [novationref10_Shifted.l0])
  rw [novationref10_Shifted.l0] at h
  refine wgo ?_
  repeat refine cj ?_
  refine kIf2 h (fun hb h => ?_) (fun hb h => ?_)
  refine wgo ?_
  repeat refine cj ?_
  obtain ⟨f2, h2, q2⟩ := bd h
  rw [aCode_loop]
  refine aLoop_fx (α := Nat × (List api_Pos) × Int × Int) (fun p => (⟨106, [], [(0, .one (.l (rowsD api_Pos.D a0))), (1, .one (.l (rowsD api_Shift.D a1))), (4, .own 3 (rowsD api_Pos.D ([] : List api_Pos))), (5, .one (.v (.bool false))), (6, .own 3 (rowsD api_Pos.D p.2.1)), (7, .one (.v (.int .i64 p.2.2.1))), (8, .one (.v (.int .i64 x8_0))), (9, .one (.v (.int .i64 p.2.2.2))), (10, .none), (11, .none), (12, .none), (13, .none), (14, .none), (15, .none)]⟩ : S)) (fun p => novationref10_Shifted.l1 a0 a1 x8_0 p.1 p.2.1 p.2.2.1 p.2.2.2 = some f2) (fun p => p.1) (FUEL, x6_0, x7_0, 0) h2 ?_ ?_
  exact fxs
  rintro ⟨k2, x6_2, x7_2, x9_2⟩ h
  simp only at h
  obtain _ | k2 := k2
  exact absurd h (by simp [novationref10_Shifted.l1])
  rw [novationref10_Shifted.l1] at h
  refine wgo ?_
  repeat refine cj ?_
  refine kIf2 h (fun hb h => ?_) (fun hb h => ?_)
  refine wgo ?_
  repeat refine cj ?_
  refine kIf2 h (fun hb h => ?_) (fun hb h => ?_)
  obtain ⟨⟨hg10_7_0, hg10_7_1⟩, h⟩ := gd h
  refine wgo ?_
  repeat refine cj ?_
  refine kIf2 h (fun hb h => ?_) (fun hb h => ?_)
  refine wgo ?_
  repeat refine cj ?_
  refine kIf2 h (fun hb h => ?_) (fun hb h => ?_)
  refine wgo ?_
  repeat refine cj ?_
  obtain ⟨s5, h5, q5⟩ := bd h
  rw [aCode_loop]
  refine aLoop_fx (α := Nat × Bool × Int × Int) (fun p => (⟨106, [], [(0, .one (.l (rowsD api_Pos.D a0))), (1, .one (.l (rowsD api_Shift.D a1))), (4, .own 3 (rowsD api_Pos.D ([] : List api_Pos))), (5, .one (.v (.bool false))), (6, .own 3 (rowsD api_Pos.D x6_2)), (7, .one (.v (.int .i64 (IntKind.i64.wrap (x7_2 + 1))))), (8, .one (.v (.int .i64 x8_0))), (9, .one (.v (.int .i64 x9_2))), (10, .one (.v (.int .i64 (rd a0 x7_2).Q))), (11, .one (.v (.bool p.2.1))), (12, .box [.d (.v (.bool (decide ((p.2.2.1 : Int) < 0)))), .d (.l (rowsU (digs (p.2.2.1 : Int).natAbs)))]), (13, .one (.v (.int .i64 p.2.2.2))), (14, .none), (15, .none)]⟩ : S)) (fun p => novationref10_Shifted.l2 a1 x8_0 x9_2 p.1 p.2.1 p.2.2.1 p.2.2.2 = some s5) (fun p => p.1) (FUEL, false, 0, 0) h5 ?_ ?_
  exact fxs
  rintro ⟨k5, x11_5, x12_5, x13_5⟩ h
  simp only at h
  obtain _ | k5 := k5
  exact absurd h (by simp [novationref10_Shifted.l2])
  rw [novationref10_Shifted.l2] at h
  refine wgo ?_
  repeat refine cj ?_
  refine kIf2 h (fun hb h => ?_) (fun hb h => ?_)
  obtain ⟨⟨hg17_2_0, hg17_2_1⟩, h⟩ := gd h
  refine wgo ?_
  repeat refine cj ?_
  refine kIf2 h (fun hb h => ?_) (fun hb h => ?_)
  refine wgo ?_
  repeat refine cj ?_
  refine kIf2 h (fun hb h => ?_) (fun hb h => ?_)
  refine wgo ?_
  repeat refine cj ?_
  obtain ⟨y18_6, hy18_6, h⟩ := bd h
  refine aCall_of (novationref1_Whole.spec hy18_6) ?_
  refine wgo ?_
  repeat refine cj ?_
  obtain ⟨y18_7, hy18_7, h⟩ := bd h
  refine aCall_of (novationref1_Plus.spec hy18_7) ?_
  refine wgo ?_
  repeat refine cj ?_
  refine Round.fx (k5, true, y18_7, IntKind.i64.wrap (x13_5 + 1)) h (Nat.lt_succ_self k5) ?_
  exact fxs
  refine wgo ?_
  repeat refine cj ?_
  refine Round.fx (k5, x11_5, x12_5, IntKind.i64.wrap (x13_5 + 1)) h (Nat.lt_succ_self k5) ?_
  exact fxs
  refine wgo ?_
  repeat refine cj ?_
  refine Round.fx (k5, x11_5, x12_5, IntKind.i64.wrap (x13_5 + 1)) h (Nat.lt_succ_self k5) ?_
  exact fxs
  obtain rfl := Option.some.inj h
  have h := q5
  try dsimp only at h
  refine wgo ?_
  repeat refine cj ?_
  refine kIf2 h (fun hb h => ?_) (fun hb h => ?_)
  refine wgo ?_
  repeat refine cj ?_
  obtain ⟨y20_2, hy20_2, h⟩ := bd h
  refine aCall_of (novationref1_Whole.spec hy20_2) ?_
  refine wgo ?_
  repeat refine cj ?_
  obtain ⟨y20_3, hy20_3, h⟩ := bd h
  refine aCall_of (novationref1_Plus.spec hy20_3) ?_
  refine wgo ?_
  repeat refine cj ?_
  obtain ⟨y20_4, hy20_4, h⟩ := bd h
  refine aCall_of (novationref1_Quantity.spec hy20_4) ?_
  refine wgo ?_
  repeat refine cj ?_
  refine kIf2 h (fun hb h => ?_) (fun hb h => ?_)
  obtain rfl := Option.some.inj h
  have h := q2
  simp only [Flow.go_ret, Flow.goL_ret] at h
  obtain rfl := Option.some.inj h
  have h := q0
  simp only [Flow.go_ret, Flow.goL_ret] at h
  obtain rfl := Option.some.inj h
  exact fin
  refine wgo ?_
  repeat refine cj ?_
  refine kIf2 h (fun hb h => ?_) (fun hb h => ?_)
  obtain ⟨hg25_6, h⟩ := gd h
  refine wgo ?_
  repeat refine cj ?_
  refine Round.fx (k2, x6_2 ++ ([(⟨x8_0, x9_2, y20_4.1⟩ : api_Pos)]), IntKind.i64.wrap (x7_2 + 1), IntKind.i64.wrap (x9_2 + 1)) h (Nat.lt_succ_self k2) ?_
  exact fxs
  refine wgo ?_
  repeat refine cj ?_
  refine Round.fx (k2, x6_2, IntKind.i64.wrap (x7_2 + 1), IntKind.i64.wrap (x9_2 + 1)) h (Nat.lt_succ_self k2) ?_
  exact fxs
  refine wgo ?_
  repeat refine cj ?_
  refine kIf2 h (fun hb h => ?_) (fun hb h => ?_)
  obtain ⟨hg25_6, h⟩ := gd h
  refine wgo ?_
  repeat refine cj ?_
  refine Round.fx (k2, x6_2 ++ ([(⟨x8_0, x9_2, (rd a0 x7_2).Q⟩ : api_Pos)]), IntKind.i64.wrap (x7_2 + 1), IntKind.i64.wrap (x9_2 + 1)) h (Nat.lt_succ_self k2) ?_
  exact fxs
  refine wgo ?_
  repeat refine cj ?_
  refine Round.fx (k2, x6_2, IntKind.i64.wrap (x7_2 + 1), IntKind.i64.wrap (x9_2 + 1)) h (Nat.lt_succ_self k2) ?_
  exact fxs
  refine wgo ?_
  repeat refine cj ?_
  obtain ⟨s5, h5, q5⟩ := bd h
  rw [aCode_loop]
  refine aLoop_fx (α := Nat × Bool × Int × Int) (fun p => (⟨106, [], [(0, .one (.l (rowsD api_Pos.D a0))), (1, .one (.l (rowsD api_Shift.D a1))), (4, .own 3 (rowsD api_Pos.D ([] : List api_Pos))), (5, .one (.v (.bool false))), (6, .own 3 (rowsD api_Pos.D x6_2)), (7, .one (.v (.int .i64 x7_2))), (8, .one (.v (.int .i64 x8_0))), (9, .one (.v (.int .i64 x9_2))), (10, .one (.v (.int .i64 0))), (11, .one (.v (.bool p.2.1))), (12, .box [.d (.v (.bool (decide ((p.2.2.1 : Int) < 0)))), .d (.l (rowsU (digs (p.2.2.1 : Int).natAbs)))]), (13, .one (.v (.int .i64 p.2.2.2))), (14, .none), (15, .none)]⟩ : S)) (fun p => novationref10_Shifted.l3 a1 x8_0 x9_2 p.1 p.2.1 p.2.2.1 p.2.2.2 = some s5) (fun p => p.1) (FUEL, false, 0, 0) h5 ?_ ?_
  exact fxs
  rintro ⟨k5, x11_5, x12_5, x13_5⟩ h
  simp only at h
  obtain _ | k5 := k5
  exact absurd h (by simp [novationref10_Shifted.l3])
  rw [novationref10_Shifted.l3] at h
  refine wgo ?_
  repeat refine cj ?_
  refine kIf2 h (fun hb h => ?_) (fun hb h => ?_)
  obtain ⟨⟨hg17_2_0, hg17_2_1⟩, h⟩ := gd h
  refine wgo ?_
  repeat refine cj ?_
  refine kIf2 h (fun hb h => ?_) (fun hb h => ?_)
  refine wgo ?_
  repeat refine cj ?_
  refine kIf2 h (fun hb h => ?_) (fun hb h => ?_)
  refine wgo ?_
  repeat refine cj ?_
  obtain ⟨y18_6, hy18_6, h⟩ := bd h
  refine aCall_of (novationref1_Whole.spec hy18_6) ?_
  refine wgo ?_
  repeat refine cj ?_
  obtain ⟨y18_7, hy18_7, h⟩ := bd h
  refine aCall_of (novationref1_Plus.spec hy18_7) ?_
  refine wgo ?_
  repeat refine cj ?_
  refine Round.fx (k5, true, y18_7, IntKind.i64.wrap (x13_5 + 1)) h (Nat.lt_succ_self k5) ?_
  exact fxs
  refine wgo ?_
  repeat refine cj ?_
  refine Round.fx (k5, x11_5, x12_5, IntKind.i64.wrap (x13_5 + 1)) h (Nat.lt_succ_self k5) ?_
  exact fxs
  refine wgo ?_
  repeat refine cj ?_
  refine Round.fx (k5, x11_5, x12_5, IntKind.i64.wrap (x13_5 + 1)) h (Nat.lt_succ_self k5) ?_
  exact fxs
  obtain rfl := Option.some.inj h
  have h := q5
  try dsimp only at h
  refine wgo ?_
  repeat refine cj ?_
  refine kIf2 h (fun hb h => ?_) (fun hb h => ?_)
  refine wgo ?_
  repeat refine cj ?_
  obtain ⟨y20_2, hy20_2, h⟩ := bd h
  refine aCall_of (novationref1_Whole.spec hy20_2) ?_
  refine wgo ?_
  repeat refine cj ?_
  obtain ⟨y20_3, hy20_3, h⟩ := bd h
  refine aCall_of (novationref1_Plus.spec hy20_3) ?_
  refine wgo ?_
  repeat refine cj ?_
  obtain ⟨y20_4, hy20_4, h⟩ := bd h
  refine aCall_of (novationref1_Quantity.spec hy20_4) ?_
  refine wgo ?_
  repeat refine cj ?_
  refine kIf2 h (fun hb h => ?_) (fun hb h => ?_)
  obtain rfl := Option.some.inj h
  have h := q2
  simp only [Flow.go_ret, Flow.goL_ret] at h
  obtain rfl := Option.some.inj h
  have h := q0
  simp only [Flow.go_ret, Flow.goL_ret] at h
  obtain rfl := Option.some.inj h
  exact fin
  refine wgo ?_
  repeat refine cj ?_
  refine kIf2 h (fun hb h => ?_) (fun hb h => ?_)
  obtain ⟨hg25_6, h⟩ := gd h
  refine wgo ?_
  repeat refine cj ?_
  refine Round.fx (k2, x6_2 ++ ([(⟨x8_0, x9_2, y20_4.1⟩ : api_Pos)]), x7_2, IntKind.i64.wrap (x9_2 + 1)) h (Nat.lt_succ_self k2) ?_
  exact fxs
  refine wgo ?_
  repeat refine cj ?_
  refine Round.fx (k2, x6_2, x7_2, IntKind.i64.wrap (x9_2 + 1)) h (Nat.lt_succ_self k2) ?_
  exact fxs
  refine wgo ?_
  repeat refine cj ?_
  refine Round.fx (k2, x6_2, x7_2, IntKind.i64.wrap (x9_2 + 1)) h (Nat.lt_succ_self k2) ?_
  exact fxs
  refine wgo ?_
  repeat refine cj ?_
  obtain ⟨s5, h5, q5⟩ := bd h
  rw [aCode_loop]
  refine aLoop_fx (α := Nat × Bool × Int × Int) (fun p => (⟨106, [], [(0, .one (.l (rowsD api_Pos.D a0))), (1, .one (.l (rowsD api_Shift.D a1))), (4, .own 3 (rowsD api_Pos.D ([] : List api_Pos))), (5, .one (.v (.bool false))), (6, .own 3 (rowsD api_Pos.D x6_2)), (7, .one (.v (.int .i64 x7_2))), (8, .one (.v (.int .i64 x8_0))), (9, .one (.v (.int .i64 x9_2))), (10, .one (.v (.int .i64 0))), (11, .one (.v (.bool p.2.1))), (12, .box [.d (.v (.bool (decide ((p.2.2.1 : Int) < 0)))), .d (.l (rowsU (digs (p.2.2.1 : Int).natAbs)))]), (13, .one (.v (.int .i64 p.2.2.2))), (14, .none), (15, .none)]⟩ : S)) (fun p => novationref10_Shifted.l4 a1 x8_0 x9_2 p.1 p.2.1 p.2.2.1 p.2.2.2 = some s5) (fun p => p.1) (FUEL, false, 0, 0) h5 ?_ ?_
  exact fxs
  rintro ⟨k5, x11_5, x12_5, x13_5⟩ h
  simp only at h
  obtain _ | k5 := k5
  exact absurd h (by simp [novationref10_Shifted.l4])
  rw [novationref10_Shifted.l4] at h
  refine wgo ?_
  repeat refine cj ?_
  refine kIf2 h (fun hb h => ?_) (fun hb h => ?_)
  obtain ⟨⟨hg17_2_0, hg17_2_1⟩, h⟩ := gd h
  refine wgo ?_
  repeat refine cj ?_
  refine kIf2 h (fun hb h => ?_) (fun hb h => ?_)
  refine wgo ?_
  repeat refine cj ?_
  refine kIf2 h (fun hb h => ?_) (fun hb h => ?_)
  refine wgo ?_
  repeat refine cj ?_
  obtain ⟨y18_6, hy18_6, h⟩ := bd h
  refine aCall_of (novationref1_Whole.spec hy18_6) ?_
  refine wgo ?_
  repeat refine cj ?_
  obtain ⟨y18_7, hy18_7, h⟩ := bd h
  refine aCall_of (novationref1_Plus.spec hy18_7) ?_
  refine wgo ?_
  repeat refine cj ?_
  refine Round.fx (k5, true, y18_7, IntKind.i64.wrap (x13_5 + 1)) h (Nat.lt_succ_self k5) ?_
  exact fxs
  refine wgo ?_
  repeat refine cj ?_
  refine Round.fx (k5, x11_5, x12_5, IntKind.i64.wrap (x13_5 + 1)) h (Nat.lt_succ_self k5) ?_
  exact fxs
  refine wgo ?_
  repeat refine cj ?_
  refine Round.fx (k5, x11_5, x12_5, IntKind.i64.wrap (x13_5 + 1)) h (Nat.lt_succ_self k5) ?_
  exact fxs
  obtain rfl := Option.some.inj h
  have h := q5
  try dsimp only at h
  refine wgo ?_
  repeat refine cj ?_
  refine kIf2 h (fun hb h => ?_) (fun hb h => ?_)
  refine wgo ?_
  repeat refine cj ?_
  obtain ⟨y20_2, hy20_2, h⟩ := bd h
  refine aCall_of (novationref1_Whole.spec hy20_2) ?_
  refine wgo ?_
  repeat refine cj ?_
  obtain ⟨y20_3, hy20_3, h⟩ := bd h
  refine aCall_of (novationref1_Plus.spec hy20_3) ?_
  refine wgo ?_
  repeat refine cj ?_
  obtain ⟨y20_4, hy20_4, h⟩ := bd h
  refine aCall_of (novationref1_Quantity.spec hy20_4) ?_
  refine wgo ?_
  repeat refine cj ?_
  refine kIf2 h (fun hb h => ?_) (fun hb h => ?_)
  obtain rfl := Option.some.inj h
  have h := q2
  simp only [Flow.go_ret, Flow.goL_ret] at h
  obtain rfl := Option.some.inj h
  have h := q0
  simp only [Flow.go_ret, Flow.goL_ret] at h
  obtain rfl := Option.some.inj h
  exact fin
  refine wgo ?_
  repeat refine cj ?_
  refine kIf2 h (fun hb h => ?_) (fun hb h => ?_)
  obtain ⟨hg25_6, h⟩ := gd h
  refine wgo ?_
  repeat refine cj ?_
  refine Round.fx (k2, x6_2 ++ ([(⟨x8_0, x9_2, y20_4.1⟩ : api_Pos)]), x7_2, IntKind.i64.wrap (x9_2 + 1)) h (Nat.lt_succ_self k2) ?_
  exact fxs
  refine wgo ?_
  repeat refine cj ?_
  refine Round.fx (k2, x6_2, x7_2, IntKind.i64.wrap (x9_2 + 1)) h (Nat.lt_succ_self k2) ?_
  exact fxs
  refine wgo ?_
  repeat refine cj ?_
  refine Round.fx (k2, x6_2, x7_2, IntKind.i64.wrap (x9_2 + 1)) h (Nat.lt_succ_self k2) ?_
  exact fxs
  refine wgo ?_
  repeat refine cj ?_
  obtain ⟨s5, h5, q5⟩ := bd h
  rw [aCode_loop]
  refine aLoop_fx (α := Nat × Bool × Int × Int) (fun p => (⟨106, [], [(0, .one (.l (rowsD api_Pos.D a0))), (1, .one (.l (rowsD api_Shift.D a1))), (4, .own 3 (rowsD api_Pos.D ([] : List api_Pos))), (5, .one (.v (.bool false))), (6, .own 3 (rowsD api_Pos.D x6_2)), (7, .one (.v (.int .i64 x7_2))), (8, .one (.v (.int .i64 x8_0))), (9, .one (.v (.int .i64 x9_2))), (10, .one (.v (.int .i64 0))), (11, .one (.v (.bool p.2.1))), (12, .box [.d (.v (.bool (decide ((p.2.2.1 : Int) < 0)))), .d (.l (rowsU (digs (p.2.2.1 : Int).natAbs)))]), (13, .one (.v (.int .i64 p.2.2.2))), (14, .none), (15, .none)]⟩ : S)) (fun p => novationref10_Shifted.l5 a1 x8_0 x9_2 p.1 p.2.1 p.2.2.1 p.2.2.2 = some s5) (fun p => p.1) (FUEL, false, 0, 0) h5 ?_ ?_
  exact fxs
  rintro ⟨k5, x11_5, x12_5, x13_5⟩ h
  simp only at h
  obtain _ | k5 := k5
  exact absurd h (by simp [novationref10_Shifted.l5])
  rw [novationref10_Shifted.l5] at h
  refine wgo ?_
  repeat refine cj ?_
  refine kIf2 h (fun hb h => ?_) (fun hb h => ?_)
  obtain ⟨⟨hg17_2_0, hg17_2_1⟩, h⟩ := gd h
  refine wgo ?_
  repeat refine cj ?_
  refine kIf2 h (fun hb h => ?_) (fun hb h => ?_)
  refine wgo ?_
  repeat refine cj ?_
  refine kIf2 h (fun hb h => ?_) (fun hb h => ?_)
  refine wgo ?_
  repeat refine cj ?_
  obtain ⟨y18_6, hy18_6, h⟩ := bd h
  refine aCall_of (novationref1_Whole.spec hy18_6) ?_
  refine wgo ?_
  repeat refine cj ?_
  obtain ⟨y18_7, hy18_7, h⟩ := bd h
  refine aCall_of (novationref1_Plus.spec hy18_7) ?_
  refine wgo ?_
  repeat refine cj ?_
  refine Round.fx (k5, true, y18_7, IntKind.i64.wrap (x13_5 + 1)) h (Nat.lt_succ_self k5) ?_
  exact fxs
  refine wgo ?_
  repeat refine cj ?_
  refine Round.fx (k5, x11_5, x12_5, IntKind.i64.wrap (x13_5 + 1)) h (Nat.lt_succ_self k5) ?_
  exact fxs
  refine wgo ?_
  repeat refine cj ?_
  refine Round.fx (k5, x11_5, x12_5, IntKind.i64.wrap (x13_5 + 1)) h (Nat.lt_succ_self k5) ?_
  exact fxs
  obtain rfl := Option.some.inj h
  have h := q5
  try dsimp only at h
  refine wgo ?_
  repeat refine cj ?_
  refine kIf2 h (fun hb h => ?_) (fun hb h => ?_)
  refine wgo ?_
  repeat refine cj ?_
  obtain ⟨y20_2, hy20_2, h⟩ := bd h
  refine aCall_of (novationref1_Whole.spec hy20_2) ?_
  refine wgo ?_
  repeat refine cj ?_
  obtain ⟨y20_3, hy20_3, h⟩ := bd h
  refine aCall_of (novationref1_Plus.spec hy20_3) ?_
  refine wgo ?_
  repeat refine cj ?_
  obtain ⟨y20_4, hy20_4, h⟩ := bd h
  refine aCall_of (novationref1_Quantity.spec hy20_4) ?_
  refine wgo ?_
  repeat refine cj ?_
  refine kIf2 h (fun hb h => ?_) (fun hb h => ?_)
  obtain rfl := Option.some.inj h
  have h := q2
  simp only [Flow.go_ret, Flow.goL_ret] at h
  obtain rfl := Option.some.inj h
  have h := q0
  simp only [Flow.go_ret, Flow.goL_ret] at h
  obtain rfl := Option.some.inj h
  exact fin
  refine wgo ?_
  repeat refine cj ?_
  refine kIf2 h (fun hb h => ?_) (fun hb h => ?_)
  obtain ⟨hg25_6, h⟩ := gd h
  refine wgo ?_
  repeat refine cj ?_
  refine Round.fx (k2, x6_2 ++ ([(⟨x8_0, x9_2, y20_4.1⟩ : api_Pos)]), x7_2, IntKind.i64.wrap (x9_2 + 1)) h (Nat.lt_succ_self k2) ?_
  exact fxs
  refine wgo ?_
  repeat refine cj ?_
  refine Round.fx (k2, x6_2, x7_2, IntKind.i64.wrap (x9_2 + 1)) h (Nat.lt_succ_self k2) ?_
  exact fxs
  refine wgo ?_
  repeat refine cj ?_
  refine Round.fx (k2, x6_2, x7_2, IntKind.i64.wrap (x9_2 + 1)) h (Nat.lt_succ_self k2) ?_
  exact fxs
  obtain rfl := Option.some.inj h
  have h := q2
  simp only [Flow.go_out, Flow.goL_out] at h
  try dsimp only at h
  refine wgo ?_
  repeat refine cj ?_
  refine Round.fx (k0, x6_2, x7_2, IntKind.i64.wrap (x8_0 + 1)) h (Nat.lt_succ_self k0) ?_
  exact fxs
  obtain rfl := Option.some.inj h
  have h := q0
  simp only [Flow.go_out, Flow.goL_out] at h
  try dsimp only at h
  obtain rfl := Option.some.inj h
  exact fin
end Go.Ax

/- The walk of novationref10_Stock, printed by gen.py. -/
set_option linter.unusedSimpArgs false
set_option linter.unusedVariables false
namespace Go.Ax
open Go Go.Proofs
set_option maxRecDepth 100000
set_option maxHeartbeats 4000000
theorem novationref10_Stock.spec {a0 : List api_Pos} {r : Bool} (h : novationref10_Stock.f a0 = some r) : FSpec Try.prog 48 [(false, [.l (rowsD api_Pos.D a0)])] [.one (.d (.v (.bool r)))] := by
  unfold novationref10_Stock.f at h
  refine fspec_data mixed Try.func48 rfl (by decide) [0, 2, 3, 4] (rs := [.tmp 2]) rfl (by decide) (n := 78) rfl (by simp) ?_
  refine wgo ?_
  repeat refine cj ?_
  obtain ⟨f0, h0, q0⟩ := bd h
  rw [aCode_loop]
  refine aLoop_fx (α := Nat × Int) (fun p => (⟨78, [], [(0, .one (.l (rowsD api_Pos.D a0))), (2, .one (.v (.bool false))), (3, .one (.v (.int .i64 p.2))), (4, .none)]⟩ : S)) (fun p => novationref10_Stock.l0 a0 p.1 p.2 = some f0) (fun p => p.1) (FUEL, 0) h0 ?_ ?_
  exact fxs
  rintro ⟨k0, x3_0⟩ h
  simp only at h
  obtain _ | k0 := k0
  exact absurd h (by simp [novationref10_Stock.l0])
  rw [novationref10_Stock.l0] at h
  refine wgo ?_
  repeat refine cj ?_
  refine kIf2 h (fun hb h => ?_) (fun hb h => ?_)
  obtain ⟨⟨hg4_2_0, hg4_2_1⟩, h⟩ := gd h
  refine wgo ?_
  repeat refine cj ?_
  refine kIf3 h (fun hb h => ?_) (fun hb h => ?_)
  refine wgo ?_
  repeat refine cj ?_
  refine kIf3 h (fun hb h => ?_) (fun hb h => ?_)
  refine wgo ?_
  repeat refine cj ?_
  refine kIf3 h (fun hb h => ?_) (fun hb h => ?_)
  refine wgo ?_
  repeat refine cj ?_
  refine kIf3 h (fun hb h => ?_) (fun hb h => ?_)
  refine wgo ?_
  repeat refine cj ?_
  refine kIf3 h (fun hb h => ?_) (fun hb h => ?_)
  refine wgo ?_
  repeat refine cj ?_
  refine kIf2 h (fun hb h => ?_) (fun hb h => ?_)
  obtain rfl := Option.some.inj h
  have h := q0
  simp only [Flow.go_ret, Flow.goL_ret] at h
  obtain rfl := Option.some.inj h
  exact fin
  refine wgo ?_
  repeat refine cj ?_
  refine kIf2 h (fun hb h => ?_) (fun hb h => ?_)
  obtain ⟨⟨hg7_8_0, hg7_8_1⟩, h⟩ := gd h
  refine wgo ?_
  repeat refine cj ?_
  refine kIf3 h (fun hb h => ?_) (fun hb h => ?_)
  refine wgo ?_
  repeat refine cj ?_
  refine kIf2 h (fun hb h => ?_) (fun hb h => ?_)
  refine wgo ?_
  repeat refine cj ?_
  refine kIf2 h (fun hb h => ?_) (fun hb h => ?_)
  obtain rfl := Option.some.inj h
  have h := q0
  simp only [Flow.go_ret, Flow.goL_ret] at h
  obtain rfl := Option.some.inj h
  exact fin
  refine wgo ?_
  repeat refine cj ?_
  refine Round.fx (k0, IntKind.i64.wrap (x3_0 + 1)) h (Nat.lt_succ_self k0) ?_
  exact fxs
  refine wgo ?_
  repeat refine cj ?_
  refine Round.fx (k0, IntKind.i64.wrap (x3_0 + 1)) h (Nat.lt_succ_self k0) ?_
  exact fxs
  obtain rfl := Option.some.inj h
  have h := q0
  simp only [Flow.go_ret, Flow.goL_ret] at h
  obtain rfl := Option.some.inj h
  exact fin
  refine wgo ?_
  repeat refine cj ?_
  refine Round.fx (k0, IntKind.i64.wrap (x3_0 + 1)) h (Nat.lt_succ_self k0) ?_
  exact fxs
  obtain rfl := Option.some.inj h
  have h := q0
  simp only [Flow.go_ret, Flow.goL_ret] at h
  obtain rfl := Option.some.inj h
  exact fin
  obtain rfl := Option.some.inj h
  have h := q0
  simp only [Flow.go_ret, Flow.goL_ret] at h
  obtain rfl := Option.some.inj h
  exact fin
  obtain rfl := Option.some.inj h
  have h := q0
  simp only [Flow.go_ret, Flow.goL_ret] at h
  obtain rfl := Option.some.inj h
  exact fin
  obtain rfl := Option.some.inj h
  have h := q0
  simp only [Flow.go_ret, Flow.goL_ret] at h
  obtain rfl := Option.some.inj h
  exact fin
  obtain rfl := Option.some.inj h
  have h := q0
  simp only [Flow.go_ret, Flow.goL_ret] at h
  obtain rfl := Option.some.inj h
  exact fin
  obtain rfl := Option.some.inj h
  have h := q0
  simp only [Flow.go_out, Flow.goL_out] at h
  try dsimp only at h
  obtain rfl := Option.some.inj h
  exact fin
end Go.Ax

/- The walk of novationref10_PostStock, printed by gen.py. -/
set_option linter.unusedSimpArgs false
set_option linter.unusedVariables false
namespace Go.Ax
open Go Go.Proofs
set_option maxRecDepth 100000
set_option maxHeartbeats 4000000
theorem novationref10_PostStock.spec {a0 : List api_Pos} {a1 : List api_Shift} {r : (List api_Pos) × Int} (h : novationref10_PostStock.f a0 a1 = some r) : FSpec Try.prog 112 [(false, [.l (rowsD api_Pos.D a0)]), (false, [.l (rowsD api_Shift.D a1)])] [.one (.d (.l (rowsD api_Pos.D r.1))), .one (.d (.v (.int .i64 r.2)))] := by
  unfold novationref10_PostStock.f at h
  refine fspec_data mixed Try.func112 rfl (by decide) [0, 1, 4, 5, 6, 7, 8, 9, 10] (rs := [.tmp 4, .tmp 5]) rfl (by decide) (n := 105) rfl (by simp) ?_
  refine wgo ?_
  repeat refine cj ?_
  obtain ⟨y1_1, hy1_1, h⟩ := bd h
  refine aCall_of (novationref10_Stock.spec hy1_1) ?_
  refine wgo ?_
  repeat refine cj ?_
  refine kIf3 h (fun hb h => ?_) (fun hb h => ?_)
  refine wgo ?_
  repeat refine cj ?_
  refine kIf2 h (fun hb h => ?_) (fun hb h => ?_)
  obtain rfl := Option.some.inj h
  exact fin
  obtain ⟨⟨hg3_0_0, hg3_0_1⟩, h⟩ := gd h
  refine wgo ?_
  repeat refine cj ?_
  obtain ⟨f1, h1, q1⟩ := bd h
  rw [aCode_loop]
  refine aLoop_fx (α := Nat × (List Int) × Int) (fun p => (⟨105, [], [(0, .one (.l (rowsD api_Pos.D a0))), (1, .one (.l (rowsD api_Shift.D a1))), (4, .own 3 (rowsD api_Pos.D ([] : List api_Pos))), (5, .one (.v (.int .i64 0))), (6, .own 2 (rowsD bigDs p.2.1)), (7, .one (.v (.int .i64 p.2.2))), (8, .none), (9, .none), (10, .none)]⟩ : S)) (fun p => novationref10_PostStock.l0 a1 p.1 p.2.1 p.2.2 = some f1) (fun p => p.1) (FUEL, List.replicate (6 : Int).toNat 0, 0) h1 ?_ ?_
  exact fxs
  rintro ⟨k1, x6_1, x7_1⟩ h
  simp only at h
  obtain _ | k1 := k1
  exact absurd h (by simp [novationref10_PostStock.l0])
  rw [novationref10_PostStock.l0] at h
  refine wgo ?_
  repeat refine cj ?_
  refine kIf2 h (fun hb h => ?_) (fun hb h => ?_)
  obtain ⟨⟨hg7_2_0, hg7_2_1⟩, h⟩ := gd h
  refine wgo ?_
  repeat refine cj ?_
  refine kIf3 h (fun hb h => ?_) (fun hb h => ?_)
  refine wgo ?_
  repeat refine cj ?_
  refine kIf3 h (fun hb h => ?_) (fun hb h => ?_)
  refine wgo ?_
  repeat refine cj ?_
  refine kIf3 h (fun hb h => ?_) (fun hb h => ?_)
  refine wgo ?_
  repeat refine cj ?_
  refine kIf3 h (fun hb h => ?_) (fun hb h => ?_)
  refine wgo ?_
  repeat refine cj ?_
  refine kIf2 h (fun hb h => ?_) (fun hb h => ?_)
  obtain rfl := Option.some.inj h
  have h := q1
  simp only [Flow.go_ret, Flow.goL_ret] at h
  obtain rfl := Option.some.inj h
  exact fin
  obtain ⟨⟨hg9_12_0, hg9_12_1⟩, h⟩ := gd h
  have hr0 := fun z => rd_in bigDs x6_1 (i := (rd a1 x7_1).Inst) z (by omega) (by omega)
  try simp (maxSteps := 2000000) only [go_sem, p_kSeq, ↓reduceIte, reduceCtorEq, Nat.reduceLT, Nat.reduceLeDiff, Nat.reduceEqDiff, Nat.reduceMul, Nat.reduceAdd, Nat.reduceSub, Int.reduceLE, Int.reduceLT, hr0]
  repeat refine cj ?_
  obtain ⟨y9_19, hy9_19, h⟩ := bd h
  refine aCall_of (novationref1_Whole.spec hy9_19) ?_
  try simp (maxSteps := 2000000) only [go_sem, p_kSeq, ↓reduceIte, reduceCtorEq, Nat.reduceLT, Nat.reduceLeDiff, Nat.reduceEqDiff, Nat.reduceMul, Nat.reduceAdd, Nat.reduceSub, Int.reduceLE, Int.reduceLT, hr0]
  repeat refine cj ?_
  obtain ⟨y9_20, hy9_20, h⟩ := bd h
  have e := novationref1_Plus.spec hy9_20
  try simp only [go_sem, List.map_set, rowsD_append, rowsD_cons, rowsD_nil, rowsD_set, rowsD_take, rowsD_drop, rowsD_replicate] at e
  refine aCall_of e ?_
  have hr1 := fun z => rd_in bigDs x6_1 (i := (rd a1 x7_1).Inst) z (by omega) (by omega)
  try simp (maxSteps := 2000000) only [go_sem, p_kSeq, ↓reduceIte, reduceCtorEq, Nat.reduceLT, Nat.reduceLeDiff, Nat.reduceEqDiff, Nat.reduceMul, Nat.reduceAdd, Nat.reduceSub, Int.reduceLE, Int.reduceLT, hr0, hr1]
  repeat refine cj ?_
  refine Round.fx (k1, x6_1.set (rd a1 x7_1).Inst.toNat y9_20, IntKind.i64.wrap (x7_1 + 1)) h (Nat.lt_succ_self k1) ?_
  exact fxs
  obtain rfl := Option.some.inj h
  have h := q1
  simp only [Flow.go_ret, Flow.goL_ret] at h
  obtain rfl := Option.some.inj h
  exact fin
  obtain rfl := Option.some.inj h
  have h := q1
  simp only [Flow.go_ret, Flow.goL_ret] at h
  obtain rfl := Option.some.inj h
  exact fin
  obtain rfl := Option.some.inj h
  have h := q1
  simp only [Flow.go_ret, Flow.goL_ret] at h
  obtain rfl := Option.some.inj h
  exact fin
  obtain rfl := Option.some.inj h
  have h := q1
  simp only [Flow.go_ret, Flow.goL_ret] at h
  obtain rfl := Option.some.inj h
  exact fin
  obtain rfl := Option.some.inj h
  have h := q1
  simp only [Flow.go_out, Flow.goL_out] at h
  try dsimp only at h
  refine wgo ?_
  repeat refine cj ?_
  obtain ⟨f4, h4, q4⟩ := bd h
  rw [aCode_loop]
  refine aLoop_fx (α := Nat × Int) (fun p => (⟨105, [], [(0, .one (.l (rowsD api_Pos.D a0))), (1, .one (.l (rowsD api_Shift.D a1))), (4, .own 3 (rowsD api_Pos.D ([] : List api_Pos))), (5, .one (.v (.int .i64 0))), (6, .own 2 (rowsD bigDs x6_1)), (7, .one (.v (.int .i64 x7_1))), (8, .one (.v (.int .i64 p.2))), (9, .none), (10, .none)]⟩ : S)) (fun p => novationref10_PostStock.l1 (x6_1, x7_1) p.1 p.2 = some f4) (fun p => p.1) (FUEL, 0) h4 ?_ ?_
  exact fxs
  rintro ⟨k4, x8_4⟩ h
  simp only at h
  obtain _ | k4 := k4
  exact absurd h (by simp [novationref10_PostStock.l1])
  rw [novationref10_PostStock.l1] at h
  try dsimp only at h
  refine wgo ?_
  repeat refine cj ?_
  refine kIf2 h (fun hb h => ?_) (fun hb h => ?_)
  obtain ⟨⟨hg13_2_0, hg13_2_1⟩, h⟩ := gd h
  have hr0 := fun z => rd_in bigDs x6_1 (i := x8_4) z (by omega) (by omega)
  try simp (maxSteps := 2000000) only [go_sem, p_kSeq, ↓reduceIte, reduceCtorEq, Nat.reduceLT, Nat.reduceLeDiff, Nat.reduceEqDiff, Nat.reduceMul, Nat.reduceAdd, Nat.reduceSub, Int.reduceLE, Int.reduceLT, hr0]
  repeat refine cj ?_
  obtain ⟨y13_4, hy13_4, h⟩ := bd h
  have e := novationref1_Sign.spec hy13_4
  try simp only [go_sem, List.map_set, rowsD_append, rowsD_cons, rowsD_nil, rowsD_set, rowsD_take, rowsD_drop, rowsD_replicate] at e
  refine aCall_of e ?_
  try simp (maxSteps := 2000000) only [go_sem, p_kSeq, ↓reduceIte, reduceCtorEq, Nat.reduceLT, Nat.reduceLeDiff, Nat.reduceEqDiff, Nat.reduceMul, Nat.reduceAdd, Nat.reduceSub, Int.reduceLE, Int.reduceLT, hr0]
  repeat refine cj ?_
  refine kIf2 h (fun hb h => ?_) (fun hb h => ?_)
  obtain rfl := Option.some.inj h
  have h := q4
  simp only [Flow.go_ret, Flow.goL_ret] at h
  obtain rfl := Option.some.inj h
  (try simp (maxSteps := 2000000) only [go_sem, p_kSeq, ↓reduceIte, reduceCtorEq, Nat.reduceLT, Nat.reduceLeDiff, Nat.reduceEqDiff, Nat.reduceMul, Nat.reduceAdd, Nat.reduceSub, Int.reduceLE, Int.reduceLT, hr0]) <;> first | rfl | ((repeat (first | refine And.intro (by first | assumption | (show chk _ _ _ = true; kernel_rfl) | (show isSl _ _ = true; kernel_rfl) | omega | (simp; done)) ?_ | rfl | omega | simp only [rowsD_append, rowsD_cons, rowsD_nil, rowsD_set, rowsD_take, rowsD_drop, rowsD_replicate])); done) | (simp only [List.map_set, rowsD_append, rowsD_cons, rowsD_nil, rowsD_set, rowsD_take, rowsD_drop, rowsD_replicate]; done) | (simp only [List.map_set, rowsD_append, rowsD_cons, rowsD_nil, rowsD_set, rowsD_take, rowsD_drop, rowsD_replicate]; rfl) | (simp; done)
  try simp (maxSteps := 2000000) only [go_sem, p_kSeq, ↓reduceIte, reduceCtorEq, Nat.reduceLT, Nat.reduceLeDiff, Nat.reduceEqDiff, Nat.reduceMul, Nat.reduceAdd, Nat.reduceSub, Int.reduceLE, Int.reduceLT, hr0]
  repeat refine cj ?_
  refine Round.fx (k4, IntKind.i64.wrap (x8_4 + 1)) h (Nat.lt_succ_self k4) ?_
  exact fxs
  obtain rfl := Option.some.inj h
  have h := q4
  simp only [Flow.go_out, Flow.goL_out] at h
  try dsimp only at h
  refine wgo ?_
  repeat refine cj ?_
  obtain ⟨y15_2, hy15_2, h⟩ := bd h
  refine aCall_of (novationref10_Shifted.spec hy15_2) ?_
  refine wgo ?_
  repeat refine cj ?_
  refine kIf2 h (fun hb h => ?_) (fun hb h => ?_)
  obtain rfl := Option.some.inj h
  exact fin
  obtain rfl := Option.some.inj h
  exact fin
  obtain rfl := Option.some.inj h
  exact fin
end Go.Ax

/- The walk of novationlaw13_posts, printed by gen.py. -/
set_option linter.unusedSimpArgs false
set_option linter.unusedVariables false
namespace Go.Ax
open Go Go.Proofs
set_option maxRecDepth 100000
set_option maxHeartbeats 4000000
theorem novationlaw13_posts.spec {a0 : List api_Pos} {a1 : List api_Shift} {r : Bool} (h : novationlaw13_posts.f a0 a1 = some r) : FSpec Try.prog 61 [(false, [.l (rowsD api_Pos.D a0)]), (false, [.l (rowsD api_Shift.D a1)])] [.one (.d (.v (.bool r)))] := by
  unfold novationlaw13_posts.f at h
  refine fspec_data mixed Try.func61 rfl (by decide) [0, 1, 4, 5, 6, 7, 8] (rs := [.tmp 4]) rfl (by decide) (n := 29) rfl (by simp) ?_
  refine wgo ?_
  repeat refine cj ?_
  obtain ⟨y1_2, hy1_2, h⟩ := bd h
  refine aCall_of (stock_Post.spec hy1_2) ?_
  refine wgo ?_
  repeat refine cj ?_
  obtain ⟨y2_2, hy2_2, h⟩ := bd h
  refine aCall_of (novationref10_PostStock.spec hy2_2) ?_
  refine wgo ?_
  repeat refine cj ?_
  refine kIf2 h (fun hb h => ?_) (fun hb h => ?_)
  refine wgo ?_
  repeat refine cj ?_
  obtain ⟨y3_6, hy3_6, h⟩ := bd h
  refine aCall_of (novationhelp_Stock.spec hy3_6) ?_
  obtain rfl := Option.some.inj h
  exact fin
  obtain rfl := Option.some.inj h
  exact fin
end Go.Ax

/- The walk of novationlaw13_StockPosts, printed by gen.py. -/
set_option linter.unusedSimpArgs false
set_option linter.unusedVariables false
namespace Go.Ax
open Go Go.Proofs
set_option maxRecDepth 100000
set_option maxHeartbeats 4000000
theorem novationlaw13_StockPosts.spec {a0 : List api_Pos} {a1 : List api_Shift} {r : Bool} (h : novationlaw13_StockPosts.f a0 a1 = some r) : FSpec Try.prog 10 [(false, [.l (rowsD api_Pos.D a0)]), (false, [.l (rowsD api_Shift.D a1)])] [.one (.d (.v (.bool r)))] := by
  unfold novationlaw13_StockPosts.f at h
  refine fspec_data mixed Try.func10 rfl (by decide) [0, 1, 4] (rs := [.tmp 4]) rfl (by decide) (n := 18) rfl (by simp) ?_
  refine wgo ?_
  repeat refine cj ?_
  obtain ⟨y1_0, hy1_0, h⟩ := bd h
  refine aCall_of (novationlaw13_known.spec hy1_0) ?_
  refine wgo ?_
  repeat refine cj ?_
  refine kIf2 h (fun hb h => ?_) (fun hb h => ?_)
  obtain rfl := Option.some.inj h
  exact fin
  refine wgo ?_
  repeat refine cj ?_
  refine kIf3 h (fun hb h => ?_) (fun hb h => ?_)
  refine wgo ?_
  repeat refine cj ?_
  refine kIf2 h (fun hb h => ?_) (fun hb h => ?_)
  obtain rfl := Option.some.inj h
  exact fin
  refine wgo ?_
  repeat refine cj ?_
  obtain ⟨y5_2, hy5_2, h⟩ := bd h
  refine aCall_of (novationlaw13_posts.spec hy5_2) ?_
  obtain rfl := Option.some.inj h
  exact fin
  obtain rfl := Option.some.inj h
  exact fin
end Go.Ax
