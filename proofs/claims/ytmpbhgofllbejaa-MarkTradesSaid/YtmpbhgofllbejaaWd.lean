/- The walk of novationseat_Of, printed by gen.py. -/
import Derived.Test.YtmpbhgofllbejaaGa
import Derived.Test.YtmpbhgofllbejaaGs
import Derived.Test.YtmpbhgofllbejaaWa
import Derived.Test.YtmpbhgofllbejaaWb
import Derived.Test.YtmpbhgofllbejaaWc
set_option linter.unusedVariables false
set_option linter.unusedSimpArgs false
set_option linter.unusedSimpArgs false
set_option linter.unusedVariables false
namespace Go.Ax
open Go Go.Proofs
set_option maxRecDepth 100000
set_option maxHeartbeats 4000000
theorem novationseat_Of.spec {a0 : List Int} {r : novationseat_Deck} (h : novationseat_Of.f a0 = some r) : FSpec Try.prog 21 [(false, [.l (rowsD u64D a0)])] [.bx [.l (rowsD u64D r.L), .v (.int .i64 r.f_i)]] := by
  unfold novationseat_Of.f at h
  refine fspec_data mixed Try.func21 rfl (by decide) [0, 2, 5] (rs := [.tmp 2]) rfl (by decide) (n := 6) rfl (by simp) ?_
  obtain rfl := Option.some.inj h
  exact fin
end Go.Ax

/- The walk of novationlaw15_MarkTrades, printed by gen.py. -/
set_option linter.unusedSimpArgs false
set_option linter.unusedVariables false
namespace Go.Ax
open Go Go.Proofs
set_option maxRecDepth 100000
set_option maxHeartbeats 4000000
theorem novationlaw15_MarkTrades.spec {a0 : api_Trade} {a1 : Int} {a2 : List Int} {r : Bool} (h : novationlaw15_MarkTrades.f a0 a1 a2 = some r) : FSpec Try.prog 5 [(true, api_Trade.D a0), (false, [.v (.int .i64 a1)]), (false, [.l (rowsD u64D a2)])] [.one (.d (.v (.bool r)))] := by
  unfold novationlaw15_MarkTrades.f at h
  refine fspec_data mixed Try.func5 rfl (by decide) [0, 1, 2, 3, 6, 7, 8, 9, 10, 11, 12, 13, 14, 15, 16, 17, 21] (rs := [.tmp 6]) rfl (by decide) (n := 114) rfl (by simp) ?_
  refine wgo ?_
  repeat refine cj ?_
  obtain ⟨y1_0, hy1_0, h⟩ := bd h
  refine aCall_of (novationlaw15_known.spec hy1_0) ?_
  refine wgo ?_
  repeat refine cj ?_
  refine kIf2 h (fun hb h => ?_) (fun hb h => ?_)
  obtain rfl := Option.some.inj h
  exact fin
  refine wgo ?_
  repeat refine cj ?_
  obtain ⟨y3_1, hy3_1, h⟩ := bd h
  refine aCall_of (novationseat_Of.spec hy3_1) ?_
  refine wgo ?_
  repeat refine cj ?_
  obtain ⟨y4_2, hy4_2, h⟩ := bd h
  have e := novationseat_Deck_Config.spec hy4_2
  try simp only [go_sem, List.map_set, rowsD_append, rowsD_cons, rowsD_nil, rowsD_set, rowsD_take, rowsD_drop, rowsD_replicate] at e
  refine xCall_of [] e ?_
  refine wgo ?_
  repeat refine cj ?_
  obtain ⟨y4_3, hy4_3, h⟩ := bd h
  have e := novationseat_Deck_Event.spec hy4_3
  try simp only [go_sem, List.map_set, rowsD_append, rowsD_cons, rowsD_nil, rowsD_set, rowsD_take, rowsD_drop, rowsD_replicate] at e
  refine xCall_of [] e ?_
  refine wgo ?_
  repeat refine cj ?_
  obtain ⟨y5_1, hy5_1, h⟩ := bd h
  have e := novationseat_Deck_N.spec hy5_1
  try simp only [go_sem, List.map_set, rowsD_append, rowsD_cons, rowsD_nil, rowsD_set, rowsD_take, rowsD_drop, rowsD_replicate] at e
  refine xCall_of [] e ?_
  refine wgo ?_
  repeat refine cj ?_
  obtain ⟨y5_3, hy5_3, h⟩ := bd h
  have e := novationseat_Deck_N.spec hy5_3
  try simp only [go_sem, List.map_set, rowsD_append, rowsD_cons, rowsD_nil, rowsD_set, rowsD_take, rowsD_drop, rowsD_replicate] at e
  refine xCall_of [] e ?_
  refine wgo ?_
  repeat refine cj ?_
  obtain ⟨y5_5, hy5_5, h⟩ := bd h
  have e := novationseat_Deck_N.spec hy5_5
  try simp only [go_sem, List.map_set, rowsD_append, rowsD_cons, rowsD_nil, rowsD_set, rowsD_take, rowsD_drop, rowsD_replicate] at e
  refine xCall_of [] e ?_
  refine wgo ?_
  repeat refine cj ?_
  obtain ⟨y6_2, hy6_2, h⟩ := bd h
  refine aCall_of (mark_Trade.spec hy6_2) ?_
  refine wgo ?_
  repeat refine cj ?_
  obtain ⟨y7_2, hy7_2, h⟩ := bd h
  refine aCall_of (novationref15_TradeParts.spec hy7_2) ?_
  refine wgo ?_
  repeat refine cj ?_
  obtain ⟨y8_2, hy8_2, h⟩ := bd h
  have e := novationseat_Deck_N.spec hy8_2
  try simp only [go_sem, List.map_set, rowsD_append, rowsD_cons, rowsD_nil, rowsD_set, rowsD_take, rowsD_drop, rowsD_replicate] at e
  refine xCall_of [] e ?_
  refine wgo ?_
  repeat refine cj ?_
  obtain ⟨y8_4, hy8_4, h⟩ := bd h
  refine aCall_of (mark_Trade.spec hy8_4) ?_
  refine wgo ?_
  repeat refine cj ?_
  refine kIf2 h (fun hb h => ?_) (fun hb h => ?_)
  refine wgo ?_
  repeat refine cj ?_
  refine kIf2 h (fun hb h => ?_) (fun hb h => ?_)
  obtain ⟨⟨hg10_1_0, hg10_1_1⟩, h⟩ := gd h
  obtain ⟨⟨hg10_5_0, hg10_5_1⟩, h⟩ := gd h
  refine wgo ?_
  repeat refine cj ?_
  obtain ⟨y10_8, hy10_8, h⟩ := bd h
  refine aCall_of (wide_Add.spec hy10_8) ?_
  refine wgo ?_
  repeat refine cj ?_
  refine kIf3 h (fun hb h => ?_) (fun hb h => ?_)
  refine wgo ?_
  repeat refine cj ?_
  refine kIf2 h (fun hb h => ?_) (fun hb h => ?_)
  obtain rfl := Option.some.inj h
  exact fin
  refine wgo ?_
  repeat refine cj ?_
  refine kIf2 h (fun hb h => ?_) (fun hb h => ?_)
  refine wgo ?_
  repeat refine cj ?_
  obtain ⟨y13_6, hy13_6, h⟩ := bd h
  refine aCall_of (novationhelp_Entries.spec hy13_6) ?_
  refine wgo ?_
  repeat refine cj ?_
  refine kIf2 h (fun hb h => ?_) (fun hb h => ?_)
  refine wgo ?_
  repeat refine cj ?_
  obtain ⟨y13_10, hy13_10, h⟩ := bd h
  refine aCall_of (mark_Right.spec hy13_10) ?_
  refine wgo ?_
  repeat refine cj ?_
  obtain ⟨y13_12, hy13_12, h⟩ := bd h
  refine aCall_of (novationref15_RightTrade.spec hy13_12) ?_
  refine wgo ?_
  repeat refine cj ?_
  refine kIf2 h (fun hb h => ?_) (fun hb h => ?_)
  refine wgo ?_
  repeat refine cj ?_
  obtain ⟨y13_17, hy13_17, h⟩ := bd h
  refine aCall_of (mark_Right.spec hy13_17) ?_
  refine wgo ?_
  repeat refine cj ?_
  obtain ⟨y13_19, hy13_19, h⟩ := bd h
  refine aCall_of (novationref15_RightTrade.spec hy13_19) ?_
  refine wgo ?_
  repeat refine cj ?_
  refine kIf2 h (fun hb h => ?_) (fun hb h => ?_)
  refine wgo ?_
  repeat refine cj ?_
  obtain ⟨y13_26, hy13_26, h⟩ := bd h
  refine aCall_of (mark_Right.spec hy13_26) ?_
  obtain rfl := Option.some.inj h
  exact fin
  obtain rfl := Option.some.inj h
  exact fin
  obtain rfl := Option.some.inj h
  exact fin
  obtain rfl := Option.some.inj h
  exact fin
  obtain rfl := Option.some.inj h
  exact fin
  obtain rfl := Option.some.inj h
  exact fin
  refine wgo ?_
  repeat refine cj ?_
  refine kIf2 h (fun hb h => ?_) (fun hb h => ?_)
  refine wgo ?_
  repeat refine cj ?_
  obtain ⟨y13_6, hy13_6, h⟩ := bd h
  refine aCall_of (novationhelp_Entries.spec hy13_6) ?_
  refine wgo ?_
  repeat refine cj ?_
  refine kIf2 h (fun hb h => ?_) (fun hb h => ?_)
  refine wgo ?_
  repeat refine cj ?_
  obtain ⟨y13_10, hy13_10, h⟩ := bd h
  refine aCall_of (mark_Right.spec hy13_10) ?_
  refine wgo ?_
  repeat refine cj ?_
  obtain ⟨y13_12, hy13_12, h⟩ := bd h
  refine aCall_of (novationref15_RightTrade.spec hy13_12) ?_
  refine wgo ?_
  repeat refine cj ?_
  refine kIf2 h (fun hb h => ?_) (fun hb h => ?_)
  refine wgo ?_
  repeat refine cj ?_
  obtain ⟨y13_17, hy13_17, h⟩ := bd h
  refine aCall_of (mark_Right.spec hy13_17) ?_
  refine wgo ?_
  repeat refine cj ?_
  obtain ⟨y13_19, hy13_19, h⟩ := bd h
  refine aCall_of (novationref15_RightTrade.spec hy13_19) ?_
  refine wgo ?_
  repeat refine cj ?_
  refine kIf2 h (fun hb h => ?_) (fun hb h => ?_)
  refine wgo ?_
  repeat refine cj ?_
  obtain ⟨y13_26, hy13_26, h⟩ := bd h
  refine aCall_of (mark_Right.spec hy13_26) ?_
  obtain rfl := Option.some.inj h
  exact fin
  obtain rfl := Option.some.inj h
  exact fin
  obtain rfl := Option.some.inj h
  exact fin
  obtain rfl := Option.some.inj h
  exact fin
  obtain rfl := Option.some.inj h
  exact fin
  refine wgo ?_
  repeat refine cj ?_
  refine kIf2 h (fun hb h => ?_) (fun hb h => ?_)
  refine wgo ?_
  repeat refine cj ?_
  obtain ⟨y13_6, hy13_6, h⟩ := bd h
  refine aCall_of (novationhelp_Entries.spec hy13_6) ?_
  refine wgo ?_
  repeat refine cj ?_
  refine kIf2 h (fun hb h => ?_) (fun hb h => ?_)
  refine wgo ?_
  repeat refine cj ?_
  obtain ⟨y13_10, hy13_10, h⟩ := bd h
  refine aCall_of (mark_Right.spec hy13_10) ?_
  refine wgo ?_
  repeat refine cj ?_
  obtain ⟨y13_12, hy13_12, h⟩ := bd h
  refine aCall_of (novationref15_RightTrade.spec hy13_12) ?_
  refine wgo ?_
  repeat refine cj ?_
  refine kIf2 h (fun hb h => ?_) (fun hb h => ?_)
  refine wgo ?_
  repeat refine cj ?_
  obtain ⟨y13_17, hy13_17, h⟩ := bd h
  refine aCall_of (mark_Right.spec hy13_17) ?_
  refine wgo ?_
  repeat refine cj ?_
  obtain ⟨y13_19, hy13_19, h⟩ := bd h
  refine aCall_of (novationref15_RightTrade.spec hy13_19) ?_
  refine wgo ?_
  repeat refine cj ?_
  refine kIf2 h (fun hb h => ?_) (fun hb h => ?_)
  refine wgo ?_
  repeat refine cj ?_
  obtain ⟨y13_26, hy13_26, h⟩ := bd h
  refine aCall_of (mark_Right.spec hy13_26) ?_
  obtain rfl := Option.some.inj h
  exact fin
  obtain rfl := Option.some.inj h
  exact fin
  obtain rfl := Option.some.inj h
  exact fin
  obtain rfl := Option.some.inj h
  exact fin
  obtain rfl := Option.some.inj h
  exact fin
end Go.Ax
