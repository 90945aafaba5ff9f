/- The walk of novationref26_class, printed by gen.py. -/
import Derived.Test.YtjmoeebaehjmnaaGa
import Derived.Test.YtjmoeebaehjmnaaGs
import Derived.Test.YtjmoeebaehjmnaaWl
import Derived.Test.YtjmoeebaehjmnaaWj
set_option linter.unusedVariables false
set_option linter.unusedSimpArgs false
set_option linter.unusedSimpArgs false
set_option linter.unusedVariables false
namespace Go.Ax
open Go Go.Proofs
set_option maxRecDepth 100000
set_option maxHeartbeats 4000000
theorem novationref26_class.spec {a0 : Int} {a1 : List api_Lot} {a2 : List api_Bid} {r : Int} (h : novationref26_class.f a0 a1 a2 = some r) : FSpec Try.prog 43 [(false, [.v (.int .i64 a0)]), (false, [.l (rowsD api_Lot.D a1)]), (false, [.l (rowsD api_Bid.D a2)])] [.one (.d (.v (.int .i64 r)))] := by
  unfold novationref26_class.f at h
  refine fspec_data mixed Try.func43 rfl (by decide) [0, 1, 2, 6, 7, 8, 9, 10, 11, 12] (rs := [.tmp 6]) rfl (by decide) (n := 72) rfl (by simp) ?_
  refine wgo ?_
  repeat refine cj ?_
  obtain ⟨s0, h0, q0⟩ := bd h
  rw [aCode_loop]
  refine aLoop_fx (α := Nat × Int × Int) (fun p => (⟨72, [], [(0, .one (.v (.int .i64 a0))), (1, .one (.l (rowsD api_Lot.D a1))), (2, .one (.l (rowsD api_Bid.D a2))), (6, .one (.v (.int .i64 0))), (7, .one (.v (.int .i64 p.2.1))), (8, .one (.v (.int .i64 p.2.2))), (9, .none), (10, .none), (11, .none), (12, .none)]⟩ : S)) (fun p => novationref26_class.l0 a0 a1 a2 p.1 p.2.1 p.2.2 = some s0) (fun p => p.1) (FUEL, 1, 0) h0 ?_ ?_
  exact fxs
  rintro ⟨k0, x7_0, x8_0⟩ h
  simp only at h
  obtain _ | k0 := k0
  exact absurd h (by simp [novationref26_class.l0])
  rw [novationref26_class.l0] at h
  refine wgo ?_
  repeat refine cj ?_
  refine kIf2 h (fun hb h => ?_) (fun hb h => ?_)
  obtain ⟨⟨hg5_2_0, hg5_2_1⟩, h⟩ := gd h
  refine wgo ?_
  repeat refine cj ?_
  refine kIf2 h (fun hb h => ?_) (fun hb h => ?_)
  refine wgo ?_
  repeat refine cj ?_
  refine Round.fx (k0, x7_0, IntKind.i64.wrap (x8_0 + 1)) h (Nat.lt_succ_self k0) ?_
  exact fxs
  refine wgo ?_
  repeat refine cj ?_
  obtain ⟨y7_6, hy7_6, h⟩ := bd h
  refine aCall_of (novationref20_FindLot.spec hy7_6) ?_
  refine wgo ?_
  repeat refine cj ?_
  refine kIf2 h (fun hb h => ?_) (fun hb h => ?_)
  refine wgo ?_
  repeat refine cj ?_
  refine kIf2 h (fun hb h => ?_) (fun hb h => ?_)
  refine wgo ?_
  repeat refine cj ?_
  refine Round.fx (k0, (if 3 > x7_0 then 3 else x7_0), IntKind.i64.wrap (x8_0 + 1)) h (Nat.lt_succ_self k0) ?_
  exact fxs
  refine wgo ?_
  repeat refine cj ?_
  refine Round.fx (k0, (if 2 > x7_0 then 2 else x7_0), IntKind.i64.wrap (x8_0 + 1)) h (Nat.lt_succ_self k0) ?_
  exact fxs
  refine wgo ?_
  repeat refine cj ?_
  refine Round.fx (k0, (if 2 > x7_0 then 2 else x7_0), IntKind.i64.wrap (x8_0 + 1)) h (Nat.lt_succ_self k0) ?_
  exact fxs
  obtain rfl := Option.some.inj h
  have h := q0
  try dsimp only at h
  refine wgo ?_
  repeat refine cj ?_
  obtain ⟨s4, h4, q4⟩ := bd h
  rw [aCode_loop]
  refine aLoop_fx (α := Nat × Int × Int) (fun p => (⟨72, [], [(0, .one (.v (.int .i64 a0))), (1, .one (.l (rowsD api_Lot.D a1))), (2, .one (.l (rowsD api_Bid.D a2))), (6, .one (.v (.int .i64 0))), (7, .one (.v (.int .i64 p.2.1))), (8, .one (.v (.int .i64 x8_0))), (9, .none), (10, .none), (11, .none), (12, .one (.v (.int .i64 p.2.2)))]⟩ : S)) (fun p => novationref26_class.l1 a0 a1 p.1 p.2.1 p.2.2 = some s4) (fun p => p.1) (FUEL, x7_0, 0) h4 ?_ ?_
  exact fxs
  rintro ⟨k4, x7_4, x12_4⟩ h
  simp only at h
  obtain _ | k4 := k4
  exact absurd h (by simp [novationref26_class.l1])
  rw [novationref26_class.l1] at h
  refine wgo ?_
  repeat refine cj ?_
  refine kIf2 h (fun hb h => ?_) (fun hb h => ?_)
  obtain ⟨⟨hg14_2_0, hg14_2_1⟩, h⟩ := gd h
  refine wgo ?_
  repeat refine cj ?_
  refine kIf2 h (fun hb h => ?_) (fun hb h => ?_)
  refine wgo ?_
  repeat refine cj ?_
  refine kIf2 h (fun hb h => ?_) (fun hb h => ?_)
  refine wgo ?_
  repeat refine cj ?_
  refine Round.fx (k4, 4, IntKind.i64.wrap (x12_4 + 1)) h (Nat.lt_succ_self k4) ?_
  exact fxs
  refine wgo ?_
  repeat refine cj ?_
  refine Round.fx (k4, x7_4, IntKind.i64.wrap (x12_4 + 1)) h (Nat.lt_succ_self k4) ?_
  exact fxs
  refine wgo ?_
  repeat refine cj ?_
  refine Round.fx (k4, x7_4, IntKind.i64.wrap (x12_4 + 1)) h (Nat.lt_succ_self k4) ?_
  exact fxs
  obtain rfl := Option.some.inj h
  have h := q4
  try dsimp only at h
  obtain rfl := Option.some.inj h
  exact fin
end Go.Ax

/- The walk of novationref26_Deeds, printed by gen.py. -/
set_option linter.unusedSimpArgs false
set_option linter.unusedVariables false
namespace Go.Ax
open Go Go.Proofs
set_option maxRecDepth 100000
set_option maxHeartbeats 4000000
theorem novationref26_Deeds.spec {a0 : api_Config} {a1 : List api_Deed} {a2 : List Int} {a3 : List api_Lot} {a4 : List api_Bid} {r : (List api_Deed) × Int} (h : novationref26_Deeds.f a0 a1 a2 a3 a4 = some r) : FSpec Try.prog 16 [(true, api_Config.D a0), (false, [.l (rowsD api_Deed.D a1)]), (false, [.l (rowsD i64D a2)]), (false, [.l (rowsD api_Lot.D a3)]), (false, [.l (rowsD api_Bid.D a4)])] [.one (.d (.l (rowsD api_Deed.D r.1))), .one (.d (.v (.int .i64 r.2)))] := by
  unfold novationref26_Deeds.f at h
  refine fspec_data mixed Try.func16 rfl (by decide) [0, 1, 2, 3, 4, 5, 10, 11, 12, 13, 14, 15, 16, 17, 18] (rs := [.tmp 10, .tmp 11]) rfl (by decide) (n := 104) rfl (by simp) ?_
  refine wgo ?_
  repeat refine cj ?_
  obtain ⟨y1_1, hy1_1, h⟩ := bd h
  refine aCall_of (novationref26_RightDeeds.spec hy1_1) ?_
  refine wgo ?_
  repeat refine cj ?_
  refine kIf3 h (fun hb h => ?_) (fun hb h => ?_)
  refine wgo ?_
  repeat refine cj ?_
  obtain ⟨y1_5, hy1_5, h⟩ := bd h
  refine aCall_of (novationref26_Rising.spec hy1_5) ?_
  refine wgo ?_
  repeat refine cj ?_
  refine kIf3 h (fun hb h => ?_) (fun hb h => ?_)
  refine wgo ?_
  repeat refine cj ?_
  obtain ⟨y1_11, hy1_11, h⟩ := bd h
  refine aCall_of (novationref20_RightLots.spec hy1_11) ?_
  refine wgo ?_
  repeat refine cj ?_
  refine kIf3 h (fun hb h => ?_) (fun hb h => ?_)
  refine wgo ?_
  repeat refine cj ?_
  obtain ⟨y1_16, hy1_16, h⟩ := bd h
  refine aCall_of (novationref20_RightBids.spec hy1_16) ?_
  refine wgo ?_
  repeat refine cj ?_
  refine kIf2 h (fun hb h => ?_) (fun hb h => ?_)
  obtain rfl := Option.some.inj h
  exact fin
  refine wgo ?_
  repeat refine cj ?_
  obtain ⟨s1, h1, q1⟩ := bd h
  rw [aCode_loop]
  refine aLoop_fx (α := Nat × (List api_Deed) × Int) (fun p => (⟨104, [], [(0, .agg (api_Config.D a0)), (1, .one (.l (rowsD api_Deed.D a1))), (2, .one (.l (rowsD i64D a2))), (3, .one (.l (rowsD api_Lot.D a3))), (4, .one (.l (rowsD api_Bid.D a4))), (5, .box [.d (.l (rowsD api_Inst.D a0.Insts)), .d (.v (.int .i64 a0.Skin)), .d (.v (.int .i64 a0.Times)), .d (.v (.int .i64 a0.Port)), .d (.v (.int .i64 a0.Bid)), .d (.v (.int .i64 a0.LotSize)), .d (.v (.int .i64 a0.HedgeMin))]), (10, .own 2 (rowsD api_Deed.D ([] : List api_Deed))), (11, .one (.v (.int .i64 0))), (12, .own 2 (rowsD api_Deed.D p.2.1)), (13, .one (.v (.int .i64 p.2.2))), (14, .none), (15, .none), (16, .none), (17, .none), (18, .none)]⟩ : S)) (fun p => novationref26_Deeds.l0 a1 a2 a3 a4 p.1 p.2.1 p.2.2 = some s1) (fun p => p.1) (FUEL, ([] : List api_Deed), 1) h1 ?_ ?_
  exact fxs
  rintro ⟨k1, x12_1, x13_1⟩ h
  simp only at h
  obtain _ | k1 := k1
  exact absurd h (by simp [novationref26_Deeds.l0])
  rw [novationref26_Deeds.l0] at h
  refine wgo ?_
  repeat refine cj ?_
  refine kIf2 h (fun hb h => ?_) (fun hb h => ?_)
  refine wgo ?_
  repeat refine cj ?_
  obtain ⟨s3, h3, q3⟩ := bd h
  rw [aCode_loop]
  refine aLoop_fx (α := Nat × Int × Bool × Int) (fun p => (⟨104, [], [(0, .agg (api_Config.D a0)), (1, .one (.l (rowsD api_Deed.D a1))), (2, .one (.l (rowsD i64D a2))), (3, .one (.l (rowsD api_Lot.D a3))), (4, .one (.l (rowsD api_Bid.D a4))), (5, .box [.d (.l (rowsD api_Inst.D a0.Insts)), .d (.v (.int .i64 a0.Skin)), .d (.v (.int .i64 a0.Times)), .d (.v (.int .i64 a0.Port)), .d (.v (.int .i64 a0.Bid)), .d (.v (.int .i64 a0.LotSize)), .d (.v (.int .i64 a0.HedgeMin))]), (10, .own 2 (rowsD api_Deed.D ([] : List api_Deed))), (11, .one (.v (.int .i64 0))), (12, .own 2 (rowsD api_Deed.D x12_1)), (13, .one (.v (.int .i64 x13_1))), (14, .one (.v (.int .i64 p.2.1))), (15, .one (.v (.bool p.2.2.1))), (16, .one (.v (.int .i64 p.2.2.2))), (17, .none), (18, .none)]⟩ : S)) (fun p => novationref26_Deeds.l1 a1 x13_1 p.1 p.2.1 p.2.2.1 p.2.2.2 = some s3) (fun p => p.1) (FUEL, 0, false, 0) h3 ?_ ?_
  exact fxs
  rintro ⟨k3, x14_3, x15_3, x16_3⟩ h
  simp only at h
  obtain _ | k3 := k3
  exact absurd h (by simp [novationref26_Deeds.l1])
  rw [novationref26_Deeds.l1] at h
  refine wgo ?_
  repeat refine cj ?_
  refine kIf2 h (fun hb h => ?_) (fun hb h => ?_)
  obtain ⟨⟨hg11_2_0, hg11_2_1⟩, h⟩ := gd h
  refine wgo ?_
  repeat refine cj ?_
  refine kIf2 h (fun hb h => ?_) (fun hb h => ?_)
  refine wgo ?_
  repeat refine cj ?_
  refine Round.fx (k3, (rd a1 x16_3).Class, true, IntKind.i64.wrap (x16_3 + 1)) h (Nat.lt_succ_self k3) ?_
  exact fxs
  refine wgo ?_
  repeat refine cj ?_
  refine Round.fx (k3, x14_3, x15_3, IntKind.i64.wrap (x16_3 + 1)) h (Nat.lt_succ_self k3) ?_
  exact fxs
  obtain rfl := Option.some.inj h
  have h := q3
  try dsimp only at h
  refine wgo ?_
  repeat refine cj ?_
  obtain ⟨s6, h6, q6⟩ := bd h
  rw [aCode_loop]
  refine aLoop_fx (α := Nat × Bool × Int) (fun p => (⟨104, [], [(0, .agg (api_Config.D a0)), (1, .one (.l (rowsD api_Deed.D a1))), (2, .one (.l (rowsD i64D a2))), (3, .one (.l (rowsD api_Lot.D a3))), (4, .one (.l (rowsD api_Bid.D a4))), (5, .box [.d (.l (rowsD api_Inst.D a0.Insts)), .d (.v (.int .i64 a0.Skin)), .d (.v (.int .i64 a0.Times)), .d (.v (.int .i64 a0.Port)), .d (.v (.int .i64 a0.Bid)), .d (.v (.int .i64 a0.LotSize)), .d (.v (.int .i64 a0.HedgeMin))]), (10, .own 2 (rowsD api_Deed.D ([] : List api_Deed))), (11, .one (.v (.int .i64 0))), (12, .own 2 (rowsD api_Deed.D x12_1)), (13, .one (.v (.int .i64 x13_1))), (14, .one (.v (.int .i64 x14_3))), (15, .one (.v (.bool p.2.1))), (16, .one (.v (.int .i64 x16_3))), (17, .one (.v (.int .i64 p.2.2))), (18, .none)]⟩ : S)) (fun p => novationref26_Deeds.l2 a2 x13_1 p.1 p.2.1 p.2.2 = some s6) (fun p => p.1) (FUEL, x15_3, 0) h6 ?_ ?_
  exact fxs
  rintro ⟨k6, x15_6, x17_6⟩ h
  simp only at h
  obtain _ | k6 := k6
  exact absurd h (by simp [novationref26_Deeds.l2])
  rw [novationref26_Deeds.l2] at h
  refine wgo ?_
  repeat refine cj ?_
  refine kIf2 h (fun hb h => ?_) (fun hb h => ?_)
  refine wgo ?_
  repeat refine cj ?_
  refine kIf3 h (fun hb h => ?_) (fun hb h => ?_)
  obtain ⟨⟨hg16_4_0, hg16_4_1⟩, h⟩ := gd h
  refine wgo ?_
  repeat refine cj ?_
  refine Round.fx (k6, (rd a2 x17_6) == x13_1, IntKind.i64.wrap (x17_6 + 1)) h (Nat.lt_succ_self k6) ?_
  exact fxs
  refine wgo ?_
  repeat refine cj ?_
  refine Round.fx (k6, true, IntKind.i64.wrap (x17_6 + 1)) h (Nat.lt_succ_self k6) ?_
  exact fxs
  obtain rfl := Option.some.inj h
  have h := q6
  try dsimp only at h
  refine wgo ?_
  repeat refine cj ?_
  obtain ⟨s8, h8, q8⟩ := bd h
  rw [aCode_loop]
  refine aLoop_fx (α := Nat × Bool × Int) (fun p => (⟨104, [], [(0, .agg (api_Config.D a0)), (1, .one (.l (rowsD api_Deed.D a1))), (2, .one (.l (rowsD i64D a2))), (3, .one (.l (rowsD api_Lot.D a3))), (4, .one (.l (rowsD api_Bid.D a4))), (5, .box [.d (.l (rowsD api_Inst.D a0.Insts)), .d (.v (.int .i64 a0.Skin)), .d (.v (.int .i64 a0.Times)), .d (.v (.int .i64 a0.Port)), .d (.v (.int .i64 a0.Bid)), .d (.v (.int .i64 a0.LotSize)), .d (.v (.int .i64 a0.HedgeMin))]), (10, .own 2 (rowsD api_Deed.D ([] : List api_Deed))), (11, .one (.v (.int .i64 0))), (12, .own 2 (rowsD api_Deed.D x12_1)), (13, .one (.v (.int .i64 x13_1))), (14, .one (.v (.int .i64 x14_3))), (15, .one (.v (.bool p.2.1))), (16, .one (.v (.int .i64 x16_3))), (17, .one (.v (.int .i64 x17_6))), (18, .one (.v (.int .i64 p.2.2)))]⟩ : S)) (fun p => novationref26_Deeds.l3 a4 x13_1 p.1 p.2.1 p.2.2 = some s8) (fun p => p.1) (FUEL, x15_6, 0) h8 ?_ ?_
  exact fxs
  rintro ⟨k8, x15_8, x18_8⟩ h
  simp only at h
  obtain _ | k8 := k8
  exact absurd h (by simp [novationref26_Deeds.l3])
  rw [novationref26_Deeds.l3] at h
  refine wgo ?_
  repeat refine cj ?_
  refine kIf2 h (fun hb h => ?_) (fun hb h => ?_)
  refine wgo ?_
  repeat refine cj ?_
  refine kIf3 h (fun hb h => ?_) (fun hb h => ?_)
  obtain ⟨⟨hg20_4_0, hg20_4_1⟩, h⟩ := gd h
  refine wgo ?_
  repeat refine cj ?_
  refine Round.fx (k8, (rd a4 x18_8).Member == x13_1, IntKind.i64.wrap (x18_8 + 1)) h (Nat.lt_succ_self k8) ?_
  exact fxs
  refine wgo ?_
  repeat refine cj ?_
  refine Round.fx (k8, true, IntKind.i64.wrap (x18_8 + 1)) h (Nat.lt_succ_self k8) ?_
  exact fxs
  obtain rfl := Option.some.inj h
  have h := q8
  try dsimp only at h
  refine wgo ?_
  repeat refine cj ?_
  refine kIf2 h (fun hb h => ?_) (fun hb h => ?_)
  refine wgo ?_
  repeat refine cj ?_
  obtain ⟨y22_6, hy22_6, h⟩ := bd h
  refine aCall_of (novationref26_class.spec hy22_6) ?_
  obtain ⟨hg22_10, h⟩ := gd h
  refine wgo ?_
  repeat refine cj ?_
  refine Round.fx (k1, x12_1 ++ ([(⟨x13_1, (if y22_6 > x14_3 then y22_6 else x14_3)⟩ : api_Deed)]), IntKind.i64.wrap (x13_1 + 1)) h (Nat.lt_succ_self k1) ?_
  exact fxs
  refine wgo ?_
  repeat refine cj ?_
  refine Round.fx (k1, x12_1, IntKind.i64.wrap (x13_1 + 1)) h (Nat.lt_succ_self k1) ?_
  exact fxs
  obtain rfl := Option.some.inj h
  have h := q1
  try dsimp only at h
  obtain rfl := Option.some.inj h
  exact fin
  obtain rfl := Option.some.inj h
  exact fin
  obtain rfl := Option.some.inj h
  exact fin
  obtain rfl := Option.some.inj h
  exact fin
end Go.Ax

/- The walk of novationref10_Key, printed by gen.py. -/
set_option linter.unusedSimpArgs false
set_option linter.unusedVariables false
namespace Go.Ax
open Go Go.Proofs
set_option maxRecDepth 100000
set_option maxHeartbeats 4000000
theorem novationref10_Key.spec {a0 : Int} {a1 : Int} {r : Bool} (h : novationref10_Key.f a0 a1 = some r) : FSpec Try.prog 117 [(false, [.v (.int .i64 a0)]), (false, [.v (.int .i64 a1)])] [.one (.d (.v (.bool r)))] := by
  unfold novationref10_Key.f at h
  refine fspec_data mixed Try.func117 rfl (by decide) [0, 1, 4, 5, 6, 21] (rs := [.tmp 4]) rfl (by decide) (n := 30) rfl (by simp) ?_
  refine wgo ?_
  repeat refine cj ?_
  refine kIf2 h (fun hb h => ?_) (fun hb h => ?_)
  refine wgo ?_
  repeat refine cj ?_
  refine kIf2 h (fun hb h => ?_) (fun hb h => ?_)
  obtain rfl := Option.some.inj h
  exact fin
  refine wgo ?_
  repeat refine cj ?_
  refine kIf2 h (fun hb h => ?_) (fun hb h => ?_)
  refine wgo ?_
  repeat refine cj ?_
  refine kIf2 h (fun hb h => ?_) (fun hb h => ?_)
  obtain rfl := Option.some.inj h
  exact fin
  obtain rfl := Option.some.inj h
  exact fin
  refine wgo ?_
  repeat refine cj ?_
  refine kIf2 h (fun hb h => ?_) (fun hb h => ?_)
  refine wgo ?_
  repeat refine cj ?_
  refine kIf2 h (fun hb h => ?_) (fun hb h => ?_)
  refine wgo ?_
  repeat refine cj ?_
  refine kIf2 h (fun hb h => ?_) (fun hb h => ?_)
  obtain rfl := Option.some.inj h
  exact fin
  obtain rfl := Option.some.inj h
  exact fin
  obtain rfl := Option.some.inj h
  exact fin
  refine wgo ?_
  repeat refine cj ?_
  refine kIf2 h (fun hb h => ?_) (fun hb h => ?_)
  refine wgo ?_
  repeat refine cj ?_
  refine kIf2 h (fun hb h => ?_) (fun hb h => ?_)
  obtain rfl := Option.some.inj h
  exact fin
  obtain rfl := Option.some.inj h
  exact fin
  obtain rfl := Option.some.inj h
  exact fin
  refine wgo ?_
  repeat refine cj ?_
  refine kIf2 h (fun hb h => ?_) (fun hb h => ?_)
  refine wgo ?_
  repeat refine cj ?_
  refine kIf2 h (fun hb h => ?_) (fun hb h => ?_)
  obtain rfl := Option.some.inj h
  exact fin
  refine wgo ?_
  repeat refine cj ?_
  refine kIf2 h (fun hb h => ?_) (fun hb h => ?_)
  refine wgo ?_
  repeat refine cj ?_
  refine kIf2 h (fun hb h => ?_) (fun hb h => ?_)
  obtain rfl := Option.some.inj h
  exact fin
  obtain rfl := Option.some.inj h
  exact fin
  refine wgo ?_
  repeat refine cj ?_
  refine kIf2 h (fun hb h => ?_) (fun hb h => ?_)
  refine wgo ?_
  repeat refine cj ?_
  refine kIf2 h (fun hb h => ?_) (fun hb h => ?_)
  refine wgo ?_
  repeat refine cj ?_
  refine kIf2 h (fun hb h => ?_) (fun hb h => ?_)
  obtain rfl := Option.some.inj h
  exact fin
  obtain rfl := Option.some.inj h
  exact fin
  obtain rfl := Option.some.inj h
  exact fin
  refine wgo ?_
  repeat refine cj ?_
  refine kIf2 h (fun hb h => ?_) (fun hb h => ?_)
  refine wgo ?_
  repeat refine cj ?_
  refine kIf2 h (fun hb h => ?_) (fun hb h => ?_)
  obtain rfl := Option.some.inj h
  exact fin
  obtain rfl := Option.some.inj h
  exact fin
  obtain rfl := Option.some.inj h
  exact fin
  refine wgo ?_
  repeat refine cj ?_
  refine kIf2 h (fun hb h => ?_) (fun hb h => ?_)
  refine wgo ?_
  repeat refine cj ?_
  refine kIf2 h (fun hb h => ?_) (fun hb h => ?_)
  obtain rfl := Option.some.inj h
  exact fin
  refine wgo ?_
  repeat refine cj ?_
  refine kIf2 h (fun hb h => ?_) (fun hb h => ?_)
  refine wgo ?_
  repeat refine cj ?_
  refine kIf2 h (fun hb h => ?_) (fun hb h => ?_)
  obtain rfl := Option.some.inj h
  exact fin
  obtain rfl := Option.some.inj h
  exact fin
  refine wgo ?_
  repeat refine cj ?_
  refine kIf2 h (fun hb h => ?_) (fun hb h => ?_)
  refine wgo ?_
  repeat refine cj ?_
  refine kIf2 h (fun hb h => ?_) (fun hb h => ?_)
  refine wgo ?_
  repeat refine cj ?_
  refine kIf2 h (fun hb h => ?_) (fun hb h => ?_)
  obtain rfl := Option.some.inj h
  exact fin
  obtain rfl := Option.some.inj h
  exact fin
  obtain rfl := Option.some.inj h
  exact fin
  refine wgo ?_
  repeat refine cj ?_
  refine kIf2 h (fun hb h => ?_) (fun hb h => ?_)
  refine wgo ?_
  repeat refine cj ?_
  refine kIf2 h (fun hb h => ?_) (fun hb h => ?_)
  obtain rfl := Option.some.inj h
  exact fin
  obtain rfl := Option.some.inj h
  exact fin
  obtain rfl := Option.some.inj h
  exact fin
  refine wgo ?_
  repeat refine cj ?_
  refine kIf2 h (fun hb h => ?_) (fun hb h => ?_)
  obtain rfl := Option.some.inj h
  exact fin
  refine wgo ?_
  repeat refine cj ?_
  refine kIf2 h (fun hb h => ?_) (fun hb h => ?_)
  refine wgo ?_
  repeat refine cj ?_
  refine kIf2 h (fun hb h => ?_) (fun hb h => ?_)
  obtain rfl := Option.some.inj h
  exact fin
  obtain rfl := Option.some.inj h
  exact fin
  refine wgo ?_
  repeat refine cj ?_
  refine kIf2 h (fun hb h => ?_) (fun hb h => ?_)
  refine wgo ?_
  repeat refine cj ?_
  refine kIf2 h (fun hb h => ?_) (fun hb h => ?_)
  refine wgo ?_
  repeat refine cj ?_
  refine kIf2 h (fun hb h => ?_) (fun hb h => ?_)
  obtain rfl := Option.some.inj h
  exact fin
  obtain rfl := Option.some.inj h
  exact fin
  obtain rfl := Option.some.inj h
  exact fin
  refine wgo ?_
  repeat refine cj ?_
  refine kIf2 h (fun hb h => ?_) (fun hb h => ?_)
  refine wgo ?_
  repeat refine cj ?_
  refine kIf2 h (fun hb h => ?_) (fun hb h => ?_)
  obtain rfl := Option.some.inj h
  exact fin
  obtain rfl := Option.some.inj h
  exact fin
  obtain rfl := Option.some.inj h
  exact fin
end Go.Ax
