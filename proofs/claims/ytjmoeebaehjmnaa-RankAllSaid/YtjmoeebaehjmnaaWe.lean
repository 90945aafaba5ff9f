/- The walk of rank_Deeds, printed by gen.py. -/
import Derived.Test.YtjmoeebaehjmnaaGa
import Derived.Test.YtjmoeebaehjmnaaGs
import Derived.Test.YtjmoeebaehjmnaaWb
import Derived.Test.YtjmoeebaehjmnaaWc
import Derived.Test.YtjmoeebaehjmnaaWa
import Derived.Test.YtjmoeebaehjmnaaWd
set_option linter.unusedVariables false
set_option linter.unusedSimpArgs false
set_option linter.unusedSimpArgs false
set_option linter.unusedVariables false
namespace Go.Ax
open Go Go.Proofs
set_option maxRecDepth 100000
set_option maxHeartbeats 4000000
theorem rank_Deeds.spec {a0 : api_Config} {a1 : List api_Deed} {a2 : List Int} {a3 : List api_Lot} {a4 : List api_Bid} {r : (List api_Deed) × Int} (h : rank_Deeds.f a0 a1 a2 a3 a4 = some r) : FSpec Try.prog 10 [(true, api_Config.D a0), (false, [.l (rowsD api_Deed.D a1)]), (false, [.l (rowsD i64D a2)]), (false, [.l (rowsD api_Lot.D a3)]), (false, [.l (rowsD api_Bid.D a4)])] [.one (.d (.l (rowsD api_Deed.D r.1))), .one (.d (.v (.int .i64 r.2)))] := by
  unfold rank_Deeds.f at h
  refine fspec_data mixed Try.func10 rfl (by decide) [0, 1, 2, 3, 4, 5, 10, 11, 12, 13, 14, 68] (rs := [.tmp 10, .tmp 11]) rfl (by decide) (n := 70) rfl (by simp) ?_
  refine wgo ?_
  repeat refine cj ?_
  obtain ⟨y1_1, hy1_1, h⟩ := bd h
  refine aCall_of (rank_Right.spec hy1_1) ?_
  refine wgo ?_
  repeat refine cj ?_
  refine kIf3 h (fun hb h => ?_) (fun hb h => ?_)
  refine wgo ?_
  repeat refine cj ?_
  obtain ⟨y1_6, hy1_6, h⟩ := bd h
  refine aCall_of (lot_Right.spec hy1_6) ?_
  refine wgo ?_
  repeat refine cj ?_
  refine kIf3 h (fun hb h => ?_) (fun hb h => ?_)
  refine wgo ?_
  repeat refine cj ?_
  obtain ⟨y1_11, hy1_11, h⟩ := bd h
  refine aCall_of (bid_Right.spec hy1_11) ?_
  refine wgo ?_
  repeat refine cj ?_
  refine kIf3 h (fun hb h => ?_) (fun hb h => ?_)
  refine wgo ?_
  repeat refine cj ?_
  obtain ⟨y1_16, hy1_16, h⟩ := bd h
  refine aCall_of (rank_Rise.spec hy1_16) ?_
  refine wgo ?_
  repeat refine cj ?_
  refine kIf2 h (fun hb h => ?_) (fun hb h => ?_)
  obtain rfl := Option.some.inj h
  exact fin
  refine wgo ?_
  repeat refine cj ?_
  obtain ⟨s1, h1, q1⟩ := bd h
  rw [aCode_loop]
  refine aLoop_fx (α := Nat × (List api_Deed) × Int) (fun p => (⟨70, [], [(0, .agg (api_Config.D a0)), (1, .one (.l (rowsD api_Deed.D a1))), (2, .one (.l (rowsD i64D a2))), (3, .one (.l (rowsD api_Lot.D a3))), (4, .one (.l (rowsD api_Bid.D a4))), (5, .box [.d (.l (rowsD api_Inst.D a0.Insts)), .d (.v (.int .i64 a0.Skin)), .d (.v (.int .i64 a0.Times)), .d (.v (.int .i64 a0.Port)), .d (.v (.int .i64 a0.Bid)), .d (.v (.int .i64 a0.LotSize)), .d (.v (.int .i64 a0.HedgeMin))]), (10, .own 2 (rowsD api_Deed.D ([] : List api_Deed))), (11, .one (.v (.int .i64 0))), (12, .own 2 (rowsD api_Deed.D p.2.1)), (13, .box [.d (.v (.int .i64 p.2.2))]), (14, .none), (68, .none)]⟩ : S)) (fun p => rank_Deeds.l0 a1 a2 a3 a4 p.1 p.2.1 p.2.2 = some s1) (fun p => p.1) (FUEL, ([] : List api_Deed), 1) h1 ?_ ?_
  exact fxs
  rintro ⟨k1, x12_1, x13_1⟩ h
  simp only at h
  obtain _ | k1 := k1
  exact absurd h (by simp [rank_Deeds.l0])
  rw [rank_Deeds.l0] at h
  refine wgo ?_
  repeat refine cj ?_
  refine kIf2 h (fun hb h => ?_) (fun hb h => ?_)
  refine wgo ?_
  repeat refine cj ?_
  obtain ⟨y7_2, hy7_2, h⟩ := bd h
  refine aCall_of (slices_IndexFunc_api_Deed_rank_Deeds_1.spec hy7_2) ?_
  refine wgo ?_
  repeat refine cj ?_
  refine kIf2 h (fun hb h => ?_) (fun hb h => ?_)
  refine wgo ?_
  repeat refine cj ?_
  obtain ⟨y8_5, hy8_5, h⟩ := bd h
  refine aCall_of (slices_Contains_int.spec hy8_5) ?_
  refine wgo ?_
  repeat refine cj ?_
  refine kIf2 h (fun hb h => ?_) (fun hb h => ?_)
  refine wgo ?_
  repeat refine cj ?_
  obtain ⟨y8_11, hy8_11, h⟩ := bd h
  refine aCall_of (slices_ContainsFunc_api_Bid_rank_Deeds_2.spec hy8_11) ?_
  refine wgo ?_
  repeat refine cj ?_
  refine kIf2 h (fun hb h => ?_) (fun hb h => ?_)
  refine wgo ?_
  repeat refine cj ?_
  refine Round.fx (k1, x12_1, IntKind.i64.wrap (x13_1 + 1)) h (Nat.lt_succ_self k1) ?_
  exact fxs
  refine wgo ?_
  repeat refine cj ?_
  obtain ⟨y9_5, hy9_5, h⟩ := bd h
  refine aCall_of (rank_done.spec hy9_5) ?_
  refine wgo ?_
  repeat refine cj ?_
  obtain ⟨y9_8, hy9_8, h⟩ := bd h
  refine aCall_of (rank_Class.spec hy9_8) ?_
  obtain ⟨hg9_12, h⟩ := gd h
  refine wgo ?_
  repeat refine cj ?_
  refine Round.fx (k1, x12_1 ++ ([(⟨x13_1, (if y9_8 > y9_5 then y9_8 else y9_5)⟩ : api_Deed)]), IntKind.i64.wrap (x13_1 + 1)) h (Nat.lt_succ_self k1) ?_
  exact fxs
  refine wgo ?_
  repeat refine cj ?_
  obtain ⟨y9_5, hy9_5, h⟩ := bd h
  refine aCall_of (rank_done.spec hy9_5) ?_
  refine wgo ?_
  repeat refine cj ?_
  obtain ⟨y9_8, hy9_8, h⟩ := bd h
  refine aCall_of (rank_Class.spec hy9_8) ?_
  obtain ⟨hg9_12, h⟩ := gd h
  refine wgo ?_
  repeat refine cj ?_
  refine Round.fx (k1, x12_1 ++ ([(⟨x13_1, (if y9_8 > y9_5 then y9_8 else y9_5)⟩ : api_Deed)]), IntKind.i64.wrap (x13_1 + 1)) h (Nat.lt_succ_self k1) ?_
  exact fxs
  refine wgo ?_
  repeat refine cj ?_
  obtain ⟨y9_5, hy9_5, h⟩ := bd h
  refine aCall_of (rank_done.spec hy9_5) ?_
  refine wgo ?_
  repeat refine cj ?_
  obtain ⟨y9_8, hy9_8, h⟩ := bd h
  refine aCall_of (rank_Class.spec hy9_8) ?_
  obtain ⟨hg9_12, h⟩ := gd h
  refine wgo ?_
  repeat refine cj ?_
  refine Round.fx (k1, x12_1 ++ ([(⟨x13_1, (if y9_8 > y9_5 then y9_8 else y9_5)⟩ : api_Deed)]), IntKind.i64.wrap (x13_1 + 1)) h (Nat.lt_succ_self k1) ?_
  exact fxs
  obtain rfl := Option.some.inj h
  have h := q1
  try dsimp only at h
  obtain rfl := Option.some.inj h
  exact fin
  obtain rfl := Option.some.inj h
  exact fin
  obtain rfl := Option.some.inj h
  exact fin
  obtain rfl := Option.some.inj h
  exact fin
end Go.Ax
