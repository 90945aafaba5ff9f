/- The walk of novationlaw26_told, printed by gen.py. -/
import Derived.Test.YtjmoeebaehjmnaaGa
import Derived.Test.YtjmoeebaehjmnaaGs
import Derived.Test.YtjmoeebaehjmnaaWa
import Derived.Test.YtjmoeebaehjmnaaWj
import Derived.Test.YtjmoeebaehjmnaaWm
import Derived.Test.YtjmoeebaehjmnaaWq
import Derived.Test.YtjmoeebaehjmnaaWe
import Derived.Test.YtjmoeebaehjmnaaWi
set_option linter.unusedVariables false
set_option linter.unusedSimpArgs false
set_option linter.unusedSimpArgs false
set_option linter.unusedVariables false
namespace Go.Ax
open Go Go.Proofs
set_option maxRecDepth 100000
set_option maxHeartbeats 4000000
theorem novationlaw26_told.spec {a0 : api_Config} {a1 : api_Book} {a2 : List api_Deed} {a3 : List Int} {a4 : List api_Lot} {a5 : List api_Bid} {a6 : Int} {a7 : Int} {r : Bool} (h : novationlaw26_told.f a0 a1 a2 a3 a4 a5 a6 a7 = some r) : FSpec Try.prog 6 [(true, api_Config.D a0), (true, api_Book.D a1), (false, [.l (rowsD api_Deed.D a2)]), (false, [.l (rowsD i64D a3)]), (false, [.l (rowsD api_Lot.D a4)]), (false, [.l (rowsD api_Bid.D a5)]), (false, [.v (.int .i64 a6)]), (false, [.v (.int .i64 a7)])] [.one (.d (.v (.bool r)))] := by
  unfold novationlaw26_told.f at h
  refine fspec_data mixed Try.func6 rfl (by decide) [0, 1, 2, 3, 4, 5, 6, 7, 8, 9, 16, 17, 18, 19, 20, 21, 22, 23, 24] (rs := [.tmp 16]) rfl (by decide) (n := 95) rfl (by simp) ?_
  refine wgo ?_
  repeat refine cj ?_
  obtain ⟨y1_5, hy1_5, h⟩ := bd h
  refine aCall_of (rank_Deeds.spec hy1_5) ?_
  refine wgo ?_
  repeat refine cj ?_
  obtain ⟨y2_5, hy2_5, h⟩ := bd h
  refine aCall_of (novationref26_Deeds.spec hy2_5) ?_
  refine wgo ?_
  repeat refine cj ?_
  obtain ⟨y3_5, hy3_5, h⟩ := bd h
  refine aCall_of (rank_Tranche.spec hy3_5) ?_
  refine wgo ?_
  repeat refine cj ?_
  obtain ⟨y4_5, hy4_5, h⟩ := bd h
  refine aCall_of (novationref26_Tranche.spec hy4_5) ?_
  refine wgo ?_
  repeat refine cj ?_
  refine kIf2 h (fun hb h => ?_) (fun hb h => ?_)
  refine wgo ?_
  repeat refine cj ?_
  obtain ⟨y5_6, hy5_6, h⟩ := bd h
  refine aCall_of (novationhelp_Deeds.spec hy5_6) ?_
  refine wgo ?_
  repeat refine cj ?_
  refine kIf2 h (fun hb h => ?_) (fun hb h => ?_)
  refine wgo ?_
  repeat refine cj ?_
  refine kIf2 h (fun hb h => ?_) (fun hb h => ?_)
  refine wgo ?_
  repeat refine cj ?_
  obtain ⟨y5_16, hy5_16, h⟩ := bd h
  refine aCall_of (novationhelp_Nums.spec hy5_16) ?_
  refine wgo ?_
  repeat refine cj ?_
  refine kIf2 h (fun hb h => ?_) (fun hb h => ?_)
  refine wgo ?_
  repeat refine cj ?_
  obtain ⟨y5_21, hy5_21, h⟩ := bd h
  refine aCall_of (rank_Class.spec hy5_21) ?_
  refine wgo ?_
  repeat refine cj ?_
  obtain ⟨y5_24, hy5_24, h⟩ := bd h
  refine aCall_of (novationref26_Class.spec hy5_24) ?_
  refine wgo ?_
  repeat refine cj ?_
  refine kIf2 h (fun hb h => ?_) (fun hb h => ?_)
  refine wgo ?_
  repeat refine cj ?_
  obtain ⟨y5_29, hy5_29, h⟩ := bd h
  refine aCall_of (rank_Right.spec hy5_29) ?_
  refine wgo ?_
  repeat refine cj ?_
  obtain ⟨y5_31, hy5_31, h⟩ := bd h
  refine aCall_of (novationref26_RightDeeds.spec hy5_31) ?_
  obtain rfl := Option.some.inj h
  exact fin
  obtain rfl := Option.some.inj h
  exact fin
  obtain rfl := Option.some.inj h
  exact fin
  obtain rfl := Option.some.inj h
  exact fin
  obtain rfl := Option.some.inj h
  exact fin
  obtain rfl := Option.some.inj h
  exact fin
end Go.Ax

/- The walk of novationlaw26_RankAll, printed by gen.py. -/
set_option linter.unusedSimpArgs false
set_option linter.unusedVariables false
namespace Go.Ax
open Go Go.Proofs
set_option maxRecDepth 100000
set_option maxHeartbeats 4000000
theorem novationlaw26_RankAll.spec {a0 : api_Config} {a1 : api_Book} {a2 : List api_Deed} {a3 : List Int} {a4 : List api_Lot} {a5 : List api_Bid} {a6 : Int} {a7 : Int} {r : Bool} (h : novationlaw26_RankAll.f a0 a1 a2 a3 a4 a5 a6 a7 = some r) : FSpec Try.prog 3 [(true, api_Config.D a0), (true, api_Book.D a1), (false, [.l (rowsD api_Deed.D a2)]), (false, [.l (rowsD i64D a3)]), (false, [.l (rowsD api_Lot.D a4)]), (false, [.l (rowsD api_Bid.D a5)]), (false, [.v (.int .i64 a6)]), (false, [.v (.int .i64 a7)])] [.one (.d (.v (.bool r)))] := by
  unfold novationlaw26_RankAll.f at h
  refine fspec_data mixed Try.func3 rfl (by decide) [0, 1, 2, 3, 4, 5, 6, 7, 8, 9, 16, 17] (rs := [.tmp 16]) rfl (by decide) (n := 102) rfl (by simp) ?_
  refine wgo ?_
  repeat refine cj ?_
  obtain ⟨y1_0, hy1_0, h⟩ := bd h
  refine aCall_of (novationlaw26_known.spec hy1_0) ?_
  refine wgo ?_
  repeat refine cj ?_
  refine kIf2 h (fun hb h => ?_) (fun hb h => ?_)
  obtain rfl := Option.some.inj h
  exact fin
  refine wgo ?_
  repeat refine cj ?_
  refine kIf3 h (fun hb h => ?_) (fun hb h => ?_)
  refine wgo ?_
  repeat refine cj ?_
  refine kIf3 h (fun hb h => ?_) (fun hb h => ?_)
  refine wgo ?_
  repeat refine cj ?_
  refine kIf3 h (fun hb h => ?_) (fun hb h => ?_)
  refine wgo ?_
  repeat refine cj ?_
  refine kIf3 h (fun hb h => ?_) (fun hb h => ?_)
  refine wgo ?_
  repeat refine cj ?_
  refine kIf3 h (fun hb h => ?_) (fun hb h => ?_)
  refine wgo ?_
  repeat refine cj ?_
  refine kIf3 h (fun hb h => ?_) (fun hb h => ?_)
  refine wgo ?_
  repeat refine cj ?_
  refine kIf3 h (fun hb h => ?_) (fun hb h => ?_)
  refine wgo ?_
  repeat refine cj ?_
  refine kIf3 h (fun hb h => ?_) (fun hb h => ?_)
  refine wgo ?_
  repeat refine cj ?_
  refine kIf3 h (fun hb h => ?_) (fun hb h => ?_)
  refine wgo ?_
  repeat refine cj ?_
  refine kIf3 h (fun hb h => ?_) (fun hb h => ?_)
  refine wgo ?_
  repeat refine cj ?_
  refine kIf2 h (fun hb h => ?_) (fun hb h => ?_)
  obtain rfl := Option.some.inj h
  exact fin
  refine wgo ?_
  repeat refine cj ?_
  obtain ⟨f2, h2, q2⟩ := bd h
  rw [aCode_loop]
  refine aLoop_fx (α := Nat × Int) (fun p => (⟨102, [], [(0, .agg (api_Config.D a0)), (1, .agg (api_Book.D a1)), (2, .one (.l (rowsD api_Deed.D a2))), (3, .one (.l (rowsD i64D a3))), (4, .one (.l (rowsD api_Lot.D a4))), (5, .one (.l (rowsD api_Bid.D a5))), (6, .one (.v (.int .i64 a6))), (7, .one (.v (.int .i64 a7))), (8, .box [.d (.l (rowsD api_Inst.D a0.Insts)), .d (.v (.int .i64 a0.Skin)), .d (.v (.int .i64 a0.Times)), .d (.v (.int .i64 a0.Port)), .d (.v (.int .i64 a0.Bid)), .d (.v (.int .i64 a0.LotSize)), .d (.v (.int .i64 a0.HedgeMin))]), (9, .box [.d (.l (rowsD api_Member.D a1.Members)), .d (.l (rowsD api_Acc.D a1.Accs)), .d (.l (rowsD api_Row.D a1.Rows)), .d (.l (rowsD api_Pos.D a1.Stock)), .d (.l (rowsD i64D a1.Prices)), .d (.l (rowsD api_Order.D a1.Orders))]), (16, .one (.v (.bool false))), (17, .one (.v (.int .i64 p.2)))]⟩ : S)) (fun p => novationlaw26_RankAll.l0 a4 p.1 p.2 = some f2) (fun p => p.1) (FUEL, 0) h2 ?_ ?_
  exact fxs
  rintro ⟨k2, x17_2⟩ h
  simp only at h
  obtain _ | k2 := k2
  exact absurd h (by simp [novationlaw26_RankAll.l0])
  rw [novationlaw26_RankAll.l0] at h
  refine wgo ?_
  repeat refine cj ?_
  refine kIf2 h (fun hb h => ?_) (fun hb h => ?_)
  obtain ⟨⟨hg8_2_0, hg8_2_1⟩, h⟩ := gd h
  refine wgo ?_
  repeat refine cj ?_
  refine kIf2 h (fun hb h => ?_) (fun hb h => ?_)
  obtain rfl := Option.some.inj h
  have h := q2
  simp only [Flow.go_ret, Flow.goL_ret] at h
  obtain rfl := Option.some.inj h
  exact fin
  refine wgo ?_
  repeat refine cj ?_
  refine Round.fx (k2, IntKind.i64.wrap (x17_2 + 1)) h (Nat.lt_succ_self k2) ?_
  exact fxs
  obtain rfl := Option.some.inj h
  have h := q2
  simp only [Flow.go_out, Flow.goL_out] at h
  try dsimp only at h
  refine wgo ?_
  repeat refine cj ?_
  obtain ⟨y10_8, hy10_8, h⟩ := bd h
  refine aCall_of (novationlaw26_told.spec hy10_8) ?_
  obtain rfl := Option.some.inj h
  exact fin
  obtain rfl := Option.some.inj h
  exact fin
  obtain rfl := Option.some.inj h
  exact fin
  obtain rfl := Option.some.inj h
  exact fin
  obtain rfl := Option.some.inj h
  exact fin
  obtain rfl := Option.some.inj h
  exact fin
  obtain rfl := Option.some.inj h
  exact fin
  obtain rfl := Option.some.inj h
  exact fin
  obtain rfl := Option.some.inj h
  exact fin
  obtain rfl := Option.some.inj h
  exact fin
  obtain rfl := Option.some.inj h
  exact fin
end Go.Ax
