/- The walk of novationref20_May, printed by gen.py. -/
import Derived.Test.YtjmoeebaehjmnaaGreatGa
import Derived.Test.YtjmoeebaehjmnaaGreatGs
import Derived.Test.YtjmoeebaehjmnaaGreatWa
import Derived.Test.YtjmoeebaehjmnaaGreatWi
import Derived.Test.YtjmoeebaehjmnaaGreatWl
import Derived.Test.YtjmoeebaehjmnaaGreatWj
import Derived.Test.YtjmoeebaehjmnaaGreatWh
import Derived.Test.YtjmoeebaehjmnaaGreatWf
import Derived.Test.YtjmoeebaehjmnaaGreatWg
set_option linter.unusedVariables false
set_option linter.unusedSimpArgs false
set_option linter.unusedSimpArgs false
set_option linter.unusedVariables false
namespace Go.Ax
open Go Go.Proofs
set_option maxRecDepth 100000
set_option maxHeartbeats 4000000
theorem novationref20_May.spec {a0 : api_Config} {a1 : api_Book} {a2 : Int} {a3 : Int} {a4 : Int} {r : Int} (h : novationref20_May.f a0 a1 a2 a3 a4 = some r) : FSpec Tryz.prog 21 [(true, api_Config.D a0), (true, api_Book.D a1), (false, [.v (.int .i64 a2)]), (false, [.v (.int .i64 a3)]), (false, [.v (.int .i64 a4)])] [.one (.d (.v (.int .i64 r)))] := by
  unfold novationref20_May.f at h
  refine fspec_data mixed Tryz.func21 rfl (by decide) [0, 1, 2, 3, 4, 5, 6, 10, 11, 12, 13] (rs := [.tmp 10]) rfl (by decide) (n := 69) rfl (by simp) ?_
  refine wgo ?_
  repeat refine cj ?_
  obtain ⟨y1_2, hy1_2, h⟩ := bd h
  refine aCall_of (novationref15_RightBook.spec hy1_2) ?_
  refine wgo ?_
  repeat refine cj ?_
  refine kIf2 h (fun hb h => ?_) (fun hb h => ?_)
  obtain rfl := Option.some.inj h
  exact fin
  refine wgo ?_
  repeat refine cj ?_
  obtain ⟨y3_3, hy3_3, h⟩ := bd h
  refine aCall_of (novationref10_Find.spec hy3_3) ?_
  refine wgo ?_
  repeat refine cj ?_
  refine kIf3 h (fun hb h => ?_) (fun hb h => ?_)
  refine wgo ?_
  repeat refine cj ?_
  obtain ⟨y4_5, hy4_5, h⟩ := bd h
  refine aCall_of (novationref20_member.spec hy4_5) ?_
  refine wgo ?_
  repeat refine cj ?_
  refine kIf3 h (fun hb h => ?_) (fun hb h => ?_)
  refine wgo ?_
  repeat refine cj ?_
  obtain ⟨y4_11, hy4_11, h⟩ := bd h
  refine aCall_of (novationref20_member.spec hy4_11) ?_
  refine wgo ?_
  repeat refine cj ?_
  refine kIf2 h (fun hb h => ?_) (fun hb h => ?_)
  obtain rfl := Option.some.inj h
  exact fin
  refine wgo ?_
  repeat refine cj ?_
  refine kIf3 h (fun hb h => ?_) (fun hb h => ?_)
  refine wgo ?_
  repeat refine cj ?_
  refine kIf2 h (fun hb h => ?_) (fun hb h => ?_)
  obtain rfl := Option.some.inj h
  exact fin
  refine wgo ?_
  repeat refine cj ?_
  obtain ⟨y8_2, hy8_2, h⟩ := bd h
  refine aCall_of (novationref20_member.spec hy8_2) ?_
  refine wgo ?_
  repeat refine cj ?_
  refine kIf2 h (fun hb h => ?_) (fun hb h => ?_)
  obtain rfl := Option.some.inj h
  exact fin
  refine wgo ?_
  repeat refine cj ?_
  obtain ⟨y10_4, hy10_4, h⟩ := bd h
  refine aCall_of (novationref10_Of.spec hy10_4) ?_
  refine wgo ?_
  repeat refine cj ?_
  obtain ⟨y10_5, hy10_5, h⟩ := bd h
  refine aCall_of (novationref10_NeedOf.spec hy10_5) ?_
  refine wgo ?_
  repeat refine cj ?_
  obtain ⟨y11_2, hy11_2, h⟩ := bd h
  refine aCall_of (novationref20_margin.spec hy11_2) ?_
  refine wgo ?_
  repeat refine cj ?_
  obtain ⟨y11_3, hy11_3, h⟩ := bd h
  refine aCall_of (novationref1_Whole.spec hy11_3) ?_
  refine wgo ?_
  repeat refine cj ?_
  obtain ⟨y11_5, hy11_5, h⟩ := bd h
  refine aCall_of (novationref1_Cmp.spec hy11_5) ?_
  refine wgo ?_
  repeat refine cj ?_
  refine kIf2 h (fun hb h => ?_) (fun hb h => ?_)
  obtain rfl := Option.some.inj h
  exact fin
  obtain rfl := Option.some.inj h
  exact fin
  obtain rfl := Option.some.inj h
  exact fin
  obtain rfl := Option.some.inj h
  exact fin
  obtain rfl := Option.some.inj h
  exact fin
end Go.Ax

/- The walk of novationref10_PortAcc, printed by gen.py. -/
set_option linter.unusedSimpArgs false
set_option linter.unusedVariables false
namespace Go.Ax
open Go Go.Proofs
set_option maxRecDepth 100000
set_option maxHeartbeats 4000000
theorem novationref10_PortAcc.spec {a0 : List api_Member} {a1 : List api_Acc} {a2 : Int} {a3 : Int} {r : (List api_Acc) × Int} (h : novationref10_PortAcc.f a0 a1 a2 a3 = some r) : FSpec Tryz.prog 51 [(false, [.l (rowsD api_Member.D a0)]), (false, [.l (rowsD api_Acc.D a1)]), (false, [.v (.int .i64 a2)]), (false, [.v (.int .i64 a3)])] [.one (.d (.l (rowsD api_Acc.D r.1))), .one (.d (.v (.int .i64 r.2)))] := by
  unfold novationref10_PortAcc.f at h
  refine fspec_data mixed Tryz.func51 rfl (by decide) [0, 1, 2, 3, 8, 9, 10, 11, 12, 13, 14] (rs := [.tmp 8, .tmp 9]) rfl (by decide) (n := 61) rfl (by simp) ?_
  refine wgo ?_
  repeat refine cj ?_
  obtain ⟨y1_2, hy1_2, h⟩ := bd h
  refine aCall_of (novationref10_RightRoll.spec hy1_2) ?_
  refine wgo ?_
  repeat refine cj ?_
  refine kIf2 h (fun hb h => ?_) (fun hb h => ?_)
  obtain rfl := Option.some.inj h
  exact fin
  refine wgo ?_
  repeat refine cj ?_
  obtain ⟨y3_2, hy3_2, h⟩ := bd h
  refine aCall_of (novationref10_find.spec hy3_2) ?_
  refine wgo ?_
  repeat refine cj ?_
  obtain ⟨y4_2, hy4_2, h⟩ := bd h
  refine aCall_of (novationref10_status.spec hy4_2) ?_
  refine wgo ?_
  repeat refine cj ?_
  refine kIf3 h (fun hb h => ?_) (fun hb h => ?_)
  refine wgo ?_
  repeat refine cj ?_
  refine kIf2 h (fun hb h => ?_) (fun hb h => ?_)
  obtain rfl := Option.some.inj h
  exact fin
  refine wgo ?_
  repeat refine cj ?_
  refine kIf2 h (fun hb h => ?_) (fun hb h => ?_)
  obtain rfl := Option.some.inj h
  exact fin
  refine wgo ?_
  repeat refine cj ?_
  refine kIf2 h (fun hb h => ?_) (fun hb h => ?_)
  obtain rfl := Option.some.inj h
  exact fin
  obtain ⟨hg11_2, h⟩ := gd h
  refine wgo ?_
  repeat refine cj ?_
  obtain ⟨s4, h4, q4⟩ := bd h
  rw [aCode_loop]
  refine aLoop_fx (α := Nat × (List api_Acc) × Int) (fun p => (⟨61, [], [(0, .one (.l (rowsD api_Member.D a0))), (1, .one (.l (rowsD api_Acc.D a1))), (2, .one (.v (.int .i64 a2))), (3, .one (.v (.int .i64 a3))), (8, .own 4 (rowsD api_Acc.D ([] : List api_Acc))), (9, .one (.v (.int .i64 0))), (10, .box [.d (.v (.int .i64 y3_2.1.Id)), .d (.v (.int .i64 y3_2.1.Member)), .d (.v (.int .i64 y3_2.1.Kind)), .d (.v (.int .i64 y3_2.1.Limit))]), (11, .one (.v (.bool y3_2.2))), (12, .one (.v (.int .i64 y4_2))), (13, .own 4 (rowsD api_Acc.D p.2.1)), (14, .one (.v (.int .i64 p.2.2)))]⟩ : S)) (fun p => novationref10_PortAcc.l0 a2 a3 p.1 p.2.1 p.2.2 = some s4) (fun p => p.1) (FUEL, a1, 0) h4 ?_ ?_
  exact fxs
  rintro ⟨k4, x13_4, x14_4⟩ h
  simp only at h
  obtain _ | k4 := k4
  exact absurd h (by simp [novationref10_PortAcc.l0])
  rw [novationref10_PortAcc.l0] at h
  refine wgo ?_
  repeat refine cj ?_
  refine kIf2 h (fun hb h => ?_) (fun hb h => ?_)
  obtain ⟨⟨hg15_2_0, hg15_2_1⟩, h⟩ := gd h
  have hr0 := fun z => rd_in api_Acc.D x13_4 (i := x14_4) z (by omega) (by omega)
  try simp (maxSteps := 2000000) only [go_sem, ↓reduceIte, reduceCtorEq, Nat.reduceLT, Nat.reduceLeDiff, Nat.reduceEqDiff, Nat.reduceMul, Nat.reduceAdd, Nat.reduceSub, Int.reduceLE, Int.reduceLT, hr0]
  repeat refine cj ?_
  refine kIf2 h (fun hb h => ?_) (fun hb h => ?_)
  have hr1 := fun z => rd_in api_Acc.D x13_4 (i := x14_4) z (by omega) (by omega)
  try simp (maxSteps := 2000000) only [go_sem, ↓reduceIte, reduceCtorEq, Nat.reduceLT, Nat.reduceLeDiff, Nat.reduceEqDiff, Nat.reduceMul, Nat.reduceAdd, Nat.reduceSub, Int.reduceLE, Int.reduceLT, hr0, hr1]
  repeat refine cj ?_
  refine Round.fx (k4, x13_4.set x14_4.toNat ({ (rd x13_4 x14_4) with Member := a3 } : api_Acc), IntKind.i64.wrap (x14_4 + 1)) h (Nat.lt_succ_self k4) ?_
  exact fxs
  try simp (maxSteps := 2000000) only [go_sem, ↓reduceIte, reduceCtorEq, Nat.reduceLT, Nat.reduceLeDiff, Nat.reduceEqDiff, Nat.reduceMul, Nat.reduceAdd, Nat.reduceSub, Int.reduceLE, Int.reduceLT, hr0]
  repeat refine cj ?_
  refine Round.fx (k4, x13_4, IntKind.i64.wrap (x14_4 + 1)) h (Nat.lt_succ_self k4) ?_
  exact fxs
  obtain rfl := Option.some.inj h
  have h := q4
  try dsimp only at h
  obtain rfl := Option.some.inj h
  exact fin
  obtain rfl := Option.some.inj h
  exact fin
end Go.Ax

/- The walk of novationref20_Port, printed by gen.py. -/
set_option linter.unusedSimpArgs false
set_option linter.unusedVariables false
namespace Go.Ax
open Go Go.Proofs
set_option maxRecDepth 100000
set_option maxHeartbeats 4000000
theorem novationref20_Port.spec {a0 : api_Config} {a1 : api_Book} {a2 : Int} {a3 : Int} {a4 : Int} {r : api_Book × Int} (h : novationref20_Port.f a0 a1 a2 a3 a4 = some r) : FSpec Tryz.prog 18 [(true, api_Config.D a0), (true, api_Book.D a1), (false, [.v (.int .i64 a2)]), (false, [.v (.int .i64 a3)]), (false, [.v (.int .i64 a4)])] [.agg (api_Book.D r.1), .one (.d (.v (.int .i64 r.2)))] := by
  unfold novationref20_Port.f at h
  refine fspec_data mixed Tryz.func18 rfl (by decide) [0, 1, 2, 3, 4, 5, 6, 10, 11, 12, 13, 14] (rs := [.cell 10 32, .tmp 11]) rfl (by decide) (n := 42) rfl (by simp) ?_
  refine wgo ?_
  repeat refine cj ?_
  obtain ⟨y1_5, hy1_5, h⟩ := bd h
  refine aCall_of (novationref20_May.spec hy1_5) ?_
  refine wgo ?_
  repeat refine cj ?_
  refine kIf2 h (fun hb h => ?_) (fun hb h => ?_)
  obtain rfl := Option.some.inj h
  exact fin
  refine wgo ?_
  repeat refine cj ?_
  obtain ⟨y4_6, hy4_6, h⟩ := bd h
  refine aCall_of (novationref10_PortAcc.spec hy4_6) ?_
  refine wgo ?_
  repeat refine cj ?_
  refine kIf2 h (fun hb h => ?_) (fun hb h => ?_)
  obtain rfl := Option.some.inj h
  exact fin
  obtain rfl := Option.some.inj h
  exact fin
end Go.Ax

/- The walk of novationref20_Stay, printed by gen.py. -/
set_option linter.unusedSimpArgs false
set_option linter.unusedVariables false
namespace Go.Ax
open Go Go.Proofs
set_option maxRecDepth 100000
set_option maxHeartbeats 4000000
theorem novationref20_Stay.spec {a0 : api_Config} {a1 : api_Book} {a2 : Int} {r : (List Int) × Int} (h : novationref20_Stay.f a0 a1 a2 = some r) : FSpec Tryz.prog 19 [(true, api_Config.D a0), (true, api_Book.D a1), (false, [.v (.int .i64 a2)])] [.one (.d (.l (rowsD i64D r.1))), .one (.d (.v (.int .i64 r.2)))] := by
  unfold novationref20_Stay.f at h
  refine fspec_data mixed Tryz.func19 rfl (by decide) [0, 1, 2, 3, 4, 6, 7, 8, 9] (rs := [.tmp 6, .tmp 7]) rfl (by decide) (n := 52) rfl (by simp) ?_
  refine wgo ?_
  repeat refine cj ?_
  obtain ⟨y1_2, hy1_2, h⟩ := bd h
  refine aCall_of (novationref15_RightBook.spec hy1_2) ?_
  refine wgo ?_
  repeat refine cj ?_
  refine kIf2 h (fun hb h => ?_) (fun hb h => ?_)
  obtain rfl := Option.some.inj h
  exact fin
  refine wgo ?_
  repeat refine cj ?_
  obtain ⟨y3_2, hy3_2, h⟩ := bd h
  refine aCall_of (novationref20_member.spec hy3_2) ?_
  refine wgo ?_
  repeat refine cj ?_
  refine kIf2 h (fun hb h => ?_) (fun hb h => ?_)
  obtain rfl := Option.some.inj h
  exact fin
  refine wgo ?_
  repeat refine cj ?_
  obtain ⟨s2, h2, q2⟩ := bd h
  rw [aCode_loop]
  refine aLoop_fx (α := Nat × (List Int) × Int) (fun p => (⟨52, [], [(0, .agg (api_Config.D a0)), (1, .agg (api_Book.D a1)), (2, .one (.v (.int .i64 a2))), (3, .box [.d (.l (rowsD api_Inst.D a0.Insts)), .d (.v (.int .i64 a0.Skin)), .d (.v (.int .i64 a0.Times)), .d (.v (.int .i64 a0.Port)), .d (.v (.int .i64 a0.Bid)), .d (.v (.int .i64 a0.LotSize)), .d (.v (.int .i64 a0.HedgeMin))]), (4, .box [.d (.l (rowsD api_Member.D a1.Members)), .d (.l (rowsD api_Acc.D a1.Accs)), .d (.l (rowsD api_Row.D a1.Rows)), .d (.l (rowsD api_Pos.D a1.Stock)), .d (.l (rowsD i64D a1.Prices)), .d (.l (rowsD api_Order.D a1.Orders))]), (6, .own 1 (rowsD i64D ([] : List Int))), (7, .one (.v (.int .i64 0))), (8, .own 1 (rowsD i64D p.2.1)), (9, .one (.v (.int .i64 p.2.2)))]⟩ : S)) (fun p => novationref20_Stay.l0 a1 a2 p.1 p.2.1 p.2.2 = some s2) (fun p => p.1) (FUEL, ([] : List Int), 0) h2 ?_ ?_
  exact fxs
  rintro ⟨k2, x8_2, x9_2⟩ h
  simp only at h
  obtain _ | k2 := k2
  exact absurd h (by simp [novationref20_Stay.l0])
  rw [novationref20_Stay.l0] at h
  refine wgo ?_
  repeat refine cj ?_
  refine kIf2 h (fun hb h => ?_) (fun hb h => ?_)
  obtain ⟨⟨hg9_3_0, hg9_3_1⟩, h⟩ := gd h
  refine wgo ?_
  repeat refine cj ?_
  refine kIf2 h (fun hb h => ?_) (fun hb h => ?_)
  refine wgo ?_
  repeat refine cj ?_
  refine kIf2 h (fun hb h => ?_) (fun hb h => ?_)
  obtain ⟨hg10_8, h⟩ := gd h
  refine wgo ?_
  repeat refine cj ?_
  refine Round.fx (k2, x8_2 ++ ([(rd a1.Accs x9_2).Id]), IntKind.i64.wrap (x9_2 + 1)) h (Nat.lt_succ_self k2) ?_
  exact fxs
  refine wgo ?_
  repeat refine cj ?_
  refine Round.fx (k2, x8_2, IntKind.i64.wrap (x9_2 + 1)) h (Nat.lt_succ_self k2) ?_
  exact fxs
  refine wgo ?_
  repeat refine cj ?_
  refine Round.fx (k2, x8_2, IntKind.i64.wrap (x9_2 + 1)) h (Nat.lt_succ_self k2) ?_
  exact fxs
  obtain rfl := Option.some.inj h
  have h := q2
  try dsimp only at h
  obtain rfl := Option.some.inj h
  exact fin
end Go.Ax

/- The walk of novationlaw20_told, printed by gen.py. -/
set_option linter.unusedSimpArgs false
set_option linter.unusedVariables false
namespace Go.Ax
open Go Go.Proofs
set_option maxRecDepth 100000
set_option maxHeartbeats 4000000
theorem novationlaw20_told.spec {a0 : api_Config} {a1 : api_Book} {a2 : Int} {a3 : Int} {a4 : Int} {r : Bool} (h : novationlaw20_told.f a0 a1 a2 a3 a4 = some r) : FSpec Tryz.prog 7 [(true, api_Config.D a0), (true, api_Book.D a1), (false, [.v (.int .i64 a2)]), (false, [.v (.int .i64 a3)]), (false, [.v (.int .i64 a4)])] [.one (.d (.v (.bool r)))] := by
  unfold novationlaw20_told.f at h
  refine fspec_data mixed Tryz.func7 rfl (by decide) [0, 1, 2, 3, 4, 5, 6, 10, 11, 12, 13, 14, 15, 16, 17, 18] (rs := [.tmp 10]) rfl (by decide) (n := 84) rfl (by simp) ?_
  refine wgo ?_
  repeat refine cj ?_
  obtain ⟨y1_5, hy1_5, h⟩ := bd h
  refine aCall_of (port_Port.spec hy1_5) ?_
  refine wgo ?_
  repeat refine cj ?_
  obtain ⟨y2_5, hy2_5, h⟩ := bd h
  refine aCall_of (novationref20_Port.spec hy2_5) ?_
  refine wgo ?_
  repeat refine cj ?_
  obtain ⟨y3_3, hy3_3, h⟩ := bd h
  refine aCall_of (port_Stay.spec hy3_3) ?_
  refine wgo ?_
  repeat refine cj ?_
  obtain ⟨y4_3, hy4_3, h⟩ := bd h
  refine aCall_of (novationref20_Stay.spec hy4_3) ?_
  refine wgo ?_
  repeat refine cj ?_
  refine kIf2 h (fun hb h => ?_) (fun hb h => ?_)
  refine wgo ?_
  repeat refine cj ?_
  refine kIf2 h (fun hb h => ?_) (fun hb h => ?_)
  refine wgo ?_
  repeat refine cj ?_
  obtain ⟨y5_11, hy5_11, h⟩ := bd h
  refine aCall_of (novationhelp_Book.spec hy5_11) ?_
  refine wgo ?_
  repeat refine cj ?_
  refine kIf2 h (fun hb h => ?_) (fun hb h => ?_)
  refine wgo ?_
  repeat refine cj ?_
  obtain ⟨y5_16, hy5_16, h⟩ := bd h
  refine aCall_of (novationhelp_Nums.spec hy5_16) ?_
  refine wgo ?_
  repeat refine cj ?_
  refine kIf2 h (fun hb h => ?_) (fun hb h => ?_)
  refine wgo ?_
  repeat refine cj ?_
  obtain ⟨y5_24, hy5_24, h⟩ := bd h
  refine aCall_of (port_May.spec hy5_24) ?_
  refine wgo ?_
  repeat refine cj ?_
  obtain ⟨y5_30, hy5_30, h⟩ := bd h
  refine aCall_of (novationref20_May.spec hy5_30) ?_
  obtain rfl := Option.some.inj h
  exact fin
  obtain rfl := Option.some.inj h
  exact fin
  obtain rfl := Option.some.inj h
  exact fin
  obtain rfl := Option.some.inj h
  exact fin
  obtain rfl := Option.some.inj h
  exact fin
end Go.Ax

/- The walk of novationlaw20_PortAll, printed by gen.py. -/
set_option linter.unusedSimpArgs false
set_option linter.unusedVariables false
namespace Go.Ax
open Go Go.Proofs
set_option maxRecDepth 100000
set_option maxHeartbeats 4000000
theorem novationlaw20_PortAll.spec {a0 : api_Config} {a1 : api_Book} {a2 : Int} {a3 : Int} {a4 : Int} {r : Bool} (h : novationlaw20_PortAll.f a0 a1 a2 a3 a4 = some r) : FSpec Tryz.prog 3 [(true, api_Config.D a0), (true, api_Book.D a1), (false, [.v (.int .i64 a2)]), (false, [.v (.int .i64 a3)]), (false, [.v (.int .i64 a4)])] [.one (.d (.v (.bool r)))] := by
  unfold novationlaw20_PortAll.f at h
  refine fspec_data mixed Tryz.func3 rfl (by decide) [0, 1, 2, 3, 4, 5, 6, 10] (rs := [.tmp 10]) rfl (by decide) (n := 59) rfl (by simp) ?_
  refine wgo ?_
  repeat refine cj ?_
  obtain ⟨y1_0, hy1_0, h⟩ := bd h
  refine aCall_of (novationlaw20_known.spec hy1_0) ?_
  refine wgo ?_
  repeat refine cj ?_
  refine kIf2 h (fun hb h => ?_) (fun hb h => ?_)
  obtain rfl := Option.some.inj h
  exact fin
  refine wgo ?_
  repeat refine cj ?_
  refine kIf3 h (fun hb h => ?_) (fun hb h => ?_)
  refine wgo ?_
  repeat refine cj ?_
  refine kIf3 h (fun hb h => ?_) (fun hb h => ?_)
  refine wgo ?_
  repeat refine cj ?_
  refine kIf3 h (fun hb h => ?_) (fun hb h => ?_)
  refine wgo ?_
  repeat refine cj ?_
  refine kIf3 h (fun hb h => ?_) (fun hb h => ?_)
  refine wgo ?_
  repeat refine cj ?_
  refine kIf3 h (fun hb h => ?_) (fun hb h => ?_)
  refine wgo ?_
  repeat refine cj ?_
  refine kIf3 h (fun hb h => ?_) (fun hb h => ?_)
  refine wgo ?_
  repeat refine cj ?_
  refine kIf2 h (fun hb h => ?_) (fun hb h => ?_)
  obtain rfl := Option.some.inj h
  exact fin
  refine wgo ?_
  repeat refine cj ?_
  obtain ⟨y5_5, hy5_5, h⟩ := bd h
  refine aCall_of (novationlaw20_told.spec hy5_5) ?_
  obtain rfl := Option.some.inj h
  exact fin
  obtain rfl := Option.some.inj h
  exact fin
  obtain rfl := Option.some.inj h
  exact fin
  obtain rfl := Option.some.inj h
  exact fin
  obtain rfl := Option.some.inj h
  exact fin
  obtain rfl := Option.some.inj h
  exact fin
  obtain rfl := Option.some.inj h
  exact fin
end Go.Ax
