/- The walk of novationseat_Deck_Event, printed by gen.py. -/
import Derived.Test.YtmpbhgofllbejaaGa
import Derived.Test.YtmpbhgofllbejaaGs
import Derived.Test.YtmpbhgofllbejaaWa
import Derived.Test.YtmpbhgofllbejaaWb
set_option linter.unusedVariables false
set_option linter.unusedSimpArgs false
set_option linter.unusedSimpArgs false
set_option linter.unusedVariables false
namespace Go.Ax
open Go Go.Proofs
set_option maxRecDepth 100000
set_option maxHeartbeats 4000000
theorem novationseat_Deck_Event.spec {a0 : novationseat_Deck} {a1 : api_Config} {r : api_Event × novationseat_Deck} (h : novationseat_Deck_Event.f a0 a1 = some r) : XSpec Try.prog 22 [.box [.d (.l (rowsD u64D a0.L)), .d (.v (.int .i64 a0.f_i))], .d (true, api_Config.D a1)] [[.d (.l (rowsD u64D r.2.L)), .d (.v (.int .i64 r.2.f_i))], []] [.agg (api_Event.D r.1)] := by
  unfold novationseat_Deck_Event.f at h
  refine xspec_mix [false] mixed Try.func22 rfl (by decide) [0, 1, 3, 4, 5, 6, 7, 8, 23, 24, 41, 50, 94] (rs := [.cell 4 48]) rfl (by decide) (n := 133) rfl (by simp) (by kernel_rfl) (by kernel_rfl) (by kernel_rfl) ?_
  refine wgo ?_
  repeat refine cj ?_
  obtain ⟨y1_1, hy1_1, h⟩ := bd h
  have e := novationseat_Deck_N.spec hy1_1
  try simp only [go_sem, List.map_set, rowsD_append, rowsD_cons, rowsD_nil, rowsD_set, rowsD_take, rowsD_drop, rowsD_replicate] at e
  refine xCall_of [] e ?_
  refine wgo ?_
  repeat refine cj ?_
  obtain ⟨y1_4, hy1_4, h⟩ := bd h
  have e := novationseat_Deck_N.spec hy1_4
  try simp only [go_sem, List.map_set, rowsD_append, rowsD_cons, rowsD_nil, rowsD_set, rowsD_take, rowsD_drop, rowsD_replicate] at e
  refine xCall_of [] e ?_
  refine wgo ?_
  repeat refine cj ?_
  obtain ⟨y1_10, hy1_10, h⟩ := bd h
  have e := novationseat_Deck_N.spec hy1_10
  try simp only [go_sem, List.map_set, rowsD_append, rowsD_cons, rowsD_nil, rowsD_set, rowsD_take, rowsD_drop, rowsD_replicate] at e
  refine xCall_of [] e ?_
  refine wgo ?_
  repeat refine cj ?_
  obtain ⟨y2_1, hy2_1, h⟩ := bd h
  have e := novationseat_Deck_N.spec hy2_1
  try simp only [go_sem, List.map_set, rowsD_append, rowsD_cons, rowsD_nil, rowsD_set, rowsD_take, rowsD_drop, rowsD_replicate] at e
  refine xCall_of [] e ?_
  refine wgo ?_
  repeat refine cj ?_
  refine kIf2 h (fun hb h => ?_) (fun hb h => ?_)
  refine wgo ?_
  repeat refine cj ?_
  refine kIf2 h (fun hb h => ?_) (fun hb h => ?_)
  obtain rfl := Option.some.inj h
  exact fin
  refine wgo ?_
  repeat refine cj ?_
  refine kIf2 h (fun hb h => ?_) (fun hb h => ?_)
  refine wgo ?_
  repeat refine cj ?_
  obtain ⟨y10_4, hy10_4, h⟩ := bd h
  have e := novationseat_Deck_N.spec hy10_4
  try simp only [go_sem, List.map_set, rowsD_append, rowsD_cons, rowsD_nil, rowsD_set, rowsD_take, rowsD_drop, rowsD_replicate] at e
  refine xCall_of [] e ?_
  obtain rfl := Option.some.inj h
  exact fin
  refine wgo ?_
  repeat refine cj ?_
  refine kIf2 h (fun hb h => ?_) (fun hb h => ?_)
  refine wgo ?_
  repeat refine cj ?_
  refine kIf2 h (fun hb h => ?_) (fun hb h => ?_)
  refine wgo ?_
  repeat refine cj ?_
  obtain ⟨y13_3, hy13_3, h⟩ := bd h
  have e := novationseat_Deck_Some.spec hy13_3
  try simp only [go_sem, List.map_set, rowsD_append, rowsD_cons, rowsD_nil, rowsD_set, rowsD_take, rowsD_drop, rowsD_replicate] at e
  refine xCall_of [] e ?_
  obtain rfl := Option.some.inj h
  exact fin
  refine wgo ?_
  repeat refine cj ?_
  refine kIf2 h (fun hb h => ?_) (fun hb h => ?_)
  refine wgo ?_
  repeat refine cj ?_
  refine kIf2 h (fun hb h => ?_) (fun hb h => ?_)
  refine wgo ?_
  repeat refine cj ?_
  obtain ⟨y16_3, hy16_3, h⟩ := bd h
  have e := novationseat_Deck_Some.spec hy16_3
  try simp only [go_sem, List.map_set, rowsD_append, rowsD_cons, rowsD_nil, rowsD_set, rowsD_take, rowsD_drop, rowsD_replicate] at e
  refine xCall_of [] e ?_
  obtain rfl := Option.some.inj h
  exact fin
  refine wgo ?_
  repeat refine cj ?_
  refine kIf2 h (fun hb h => ?_) (fun hb h => ?_)
  refine wgo ?_
  repeat refine cj ?_
  obtain ⟨y18_3, hy18_3, h⟩ := bd h
  have e := novationseat_Deck_Some.spec hy18_3
  try simp only [go_sem, List.map_set, rowsD_append, rowsD_cons, rowsD_nil, rowsD_set, rowsD_take, rowsD_drop, rowsD_replicate] at e
  refine xCall_of [] e ?_
  obtain rfl := Option.some.inj h
  exact fin
  refine wgo ?_
  repeat refine cj ?_
  refine kIf2 h (fun hb h => ?_) (fun hb h => ?_)
  refine wgo ?_
  repeat refine cj ?_
  obtain ⟨y20_3, hy20_3, h⟩ := bd h
  have e := novationseat_Deck_N.spec hy20_3
  try simp only [go_sem, List.map_set, rowsD_append, rowsD_cons, rowsD_nil, rowsD_set, rowsD_take, rowsD_drop, rowsD_replicate] at e
  refine xCall_of [] e ?_
  obtain rfl := Option.some.inj h
  exact fin
  refine wgo ?_
  repeat refine cj ?_
  refine kIf2 h (fun hb h => ?_) (fun hb h => ?_)
  refine wgo ?_
  repeat refine cj ?_
  obtain ⟨y22_3, hy22_3, h⟩ := bd h
  have e := novationseat_Deck_mark.spec hy22_3
  try simp only [go_sem, List.map_set, rowsD_append, rowsD_cons, rowsD_nil, rowsD_set, rowsD_take, rowsD_drop, rowsD_replicate] at e
  refine xCall_of [] e ?_
  obtain rfl := Option.some.inj h
  exact fin
  refine wgo ?_
  repeat refine cj ?_
  refine kIf2 h (fun hb h => ?_) (fun hb h => ?_)
  refine wgo ?_
  repeat refine cj ?_
  obtain ⟨y24_2, hy24_2, h⟩ := bd h
  have e := novationseat_Deck_N.spec hy24_2
  try simp only [go_sem, List.map_set, rowsD_append, rowsD_cons, rowsD_nil, rowsD_set, rowsD_take, rowsD_drop, rowsD_replicate] at e
  refine xCall_of [] e ?_
  obtain rfl := Option.some.inj h
  exact fin
  refine wgo ?_
  repeat refine cj ?_
  refine kIf2 h (fun hb h => ?_) (fun hb h => ?_)
  obtain rfl := Option.some.inj h
  exact fin
  refine wgo ?_
  repeat refine cj ?_
  refine kIf2 h (fun hb h => ?_) (fun hb h => ?_)
  refine wgo ?_
  repeat refine cj ?_
  refine kIf2 h (fun hb h => ?_) (fun hb h => ?_)
  obtain rfl := Option.some.inj h
  exact fin
  refine wgo ?_
  repeat refine cj ?_
  refine kIf2 h (fun hb h => ?_) (fun hb h => ?_)
  refine wgo ?_
  repeat refine cj ?_
  obtain ⟨y34_3, hy34_3, h⟩ := bd h
  have e := novationseat_Deck_N.spec hy34_3
  try simp only [go_sem, List.map_set, rowsD_append, rowsD_cons, rowsD_nil, rowsD_set, rowsD_take, rowsD_drop, rowsD_replicate] at e
  refine xCall_of [] e ?_
  refine wgo ?_
  repeat refine cj ?_
  obtain ⟨y34_6, hy34_6, h⟩ := bd h
  have e := novationseat_Deck_N.spec hy34_6
  try simp only [go_sem, List.map_set, rowsD_append, rowsD_cons, rowsD_nil, rowsD_set, rowsD_take, rowsD_drop, rowsD_replicate] at e
  refine xCall_of [] e ?_
  obtain ⟨⟨hg34_11_0, hg34_11_1⟩, h⟩ := gd h
  obtain rfl := Option.some.inj h
  exact fin
  refine wgo ?_
  repeat refine cj ?_
  refine kIf2 h (fun hb h => ?_) (fun hb h => ?_)
  refine wgo ?_
  repeat refine cj ?_
  obtain ⟨y36_3, hy36_3, h⟩ := bd h
  have e := novationseat_Deck_N.spec hy36_3
  try simp only [go_sem, List.map_set, rowsD_append, rowsD_cons, rowsD_nil, rowsD_set, rowsD_take, rowsD_drop, rowsD_replicate] at e
  refine xCall_of [] e ?_
  refine wgo ?_
  repeat refine cj ?_
  obtain ⟨y36_6, hy36_6, h⟩ := bd h
  have e := novationseat_Deck_N.spec hy36_6
  try simp only [go_sem, List.map_set, rowsD_append, rowsD_cons, rowsD_nil, rowsD_set, rowsD_take, rowsD_drop, rowsD_replicate] at e
  refine xCall_of [] e ?_
  obtain rfl := Option.some.inj h
  exact fin
  refine wgo ?_
  repeat refine cj ?_
  obtain ⟨y37_2, hy37_2, h⟩ := bd h
  have e := novationseat_Deck_order.spec hy37_2
  try simp only [go_sem, List.map_set, rowsD_append, rowsD_cons, rowsD_nil, rowsD_set, rowsD_take, rowsD_drop, rowsD_replicate] at e
  refine xCall_of [] e ?_
  obtain rfl := Option.some.inj h
  exact fin
  refine wgo ?_
  repeat refine cj ?_
  refine kIf2 h (fun hb h => ?_) (fun hb h => ?_)
  refine wgo ?_
  repeat refine cj ?_
  refine kIf2 h (fun hb h => ?_) (fun hb h => ?_)
  obtain rfl := Option.some.inj h
  exact fin
  refine wgo ?_
  repeat refine cj ?_
  refine kIf2 h (fun hb h => ?_) (fun hb h => ?_)
  refine wgo ?_
  repeat refine cj ?_
  obtain ⟨y34_3, hy34_3, h⟩ := bd h
  have e := novationseat_Deck_N.spec hy34_3
  try simp only [go_sem, List.map_set, rowsD_append, rowsD_cons, rowsD_nil, rowsD_set, rowsD_take, rowsD_drop, rowsD_replicate] at e
  refine xCall_of [] e ?_
  refine wgo ?_
  repeat refine cj ?_
  obtain ⟨y34_6, hy34_6, h⟩ := bd h
  have e := novationseat_Deck_N.spec hy34_6
  try simp only [go_sem, List.map_set, rowsD_append, rowsD_cons, rowsD_nil, rowsD_set, rowsD_take, rowsD_drop, rowsD_replicate] at e
  refine xCall_of [] e ?_
  obtain ⟨⟨hg34_11_0, hg34_11_1⟩, h⟩ := gd h
  obtain rfl := Option.some.inj h
  exact fin
  refine wgo ?_
  repeat refine cj ?_
  refine kIf2 h (fun hb h => ?_) (fun hb h => ?_)
  refine wgo ?_
  repeat refine cj ?_
  obtain ⟨y36_3, hy36_3, h⟩ := bd h
  have e := novationseat_Deck_N.spec hy36_3
  try simp only [go_sem, List.map_set, rowsD_append, rowsD_cons, rowsD_nil, rowsD_set, rowsD_take, rowsD_drop, rowsD_replicate] at e
  refine xCall_of [] e ?_
  refine wgo ?_
  repeat refine cj ?_
  obtain ⟨y36_6, hy36_6, h⟩ := bd h
  have e := novationseat_Deck_N.spec hy36_6
  try simp only [go_sem, List.map_set, rowsD_append, rowsD_cons, rowsD_nil, rowsD_set, rowsD_take, rowsD_drop, rowsD_replicate] at e
  refine xCall_of [] e ?_
  obtain rfl := Option.some.inj h
  exact fin
  refine wgo ?_
  repeat refine cj ?_
  obtain ⟨y37_2, hy37_2, h⟩ := bd h
  have e := novationseat_Deck_order.spec hy37_2
  try simp only [go_sem, List.map_set, rowsD_append, rowsD_cons, rowsD_nil, rowsD_set, rowsD_take, rowsD_drop, rowsD_replicate] at e
  refine xCall_of [] e ?_
  obtain rfl := Option.some.inj h
  exact fin
  refine wgo ?_
  repeat refine cj ?_
  refine kIf2 h (fun hb h => ?_) (fun hb h => ?_)
  refine wgo ?_
  repeat refine cj ?_
  refine kIf2 h (fun hb h => ?_) (fun hb h => ?_)
  obtain rfl := Option.some.inj h
  exact fin
  refine wgo ?_
  repeat refine cj ?_
  refine kIf2 h (fun hb h => ?_) (fun hb h => ?_)
  refine wgo ?_
  repeat refine cj ?_
  obtain ⟨y34_3, hy34_3, h⟩ := bd h
  have e := novationseat_Deck_N.spec hy34_3
  try simp only [go_sem, List.map_set, rowsD_append, rowsD_cons, rowsD_nil, rowsD_set, rowsD_take, rowsD_drop, rowsD_replicate] at e
  refine xCall_of [] e ?_
  refine wgo ?_
  repeat refine cj ?_
  obtain ⟨y34_6, hy34_6, h⟩ := bd h
  have e := novationseat_Deck_N.spec hy34_6
  try simp only [go_sem, List.map_set, rowsD_append, rowsD_cons, rowsD_nil, rowsD_set, rowsD_take, rowsD_drop, rowsD_replicate] at e
  refine xCall_of [] e ?_
  obtain ⟨⟨hg34_11_0, hg34_11_1⟩, h⟩ := gd h
  obtain rfl := Option.some.inj h
  exact fin
  refine wgo ?_
  repeat refine cj ?_
  refine kIf2 h (fun hb h => ?_) (fun hb h => ?_)
  refine wgo ?_
  repeat refine cj ?_
  obtain ⟨y36_3, hy36_3, h⟩ := bd h
  have e := novationseat_Deck_N.spec hy36_3
  try simp only [go_sem, List.map_set, rowsD_append, rowsD_cons, rowsD_nil, rowsD_set, rowsD_take, rowsD_drop, rowsD_replicate] at e
  refine xCall_of [] e ?_
  refine wgo ?_
  repeat refine cj ?_
  obtain ⟨y36_6, hy36_6, h⟩ := bd h
  have e := novationseat_Deck_N.spec hy36_6
  try simp only [go_sem, List.map_set, rowsD_append, rowsD_cons, rowsD_nil, rowsD_set, rowsD_take, rowsD_drop, rowsD_replicate] at e
  refine xCall_of [] e ?_
  obtain rfl := Option.some.inj h
  exact fin
  refine wgo ?_
  repeat refine cj ?_
  obtain ⟨y37_2, hy37_2, h⟩ := bd h
  have e := novationseat_Deck_order.spec hy37_2
  try simp only [go_sem, List.map_set, rowsD_append, rowsD_cons, rowsD_nil, rowsD_set, rowsD_take, rowsD_drop, rowsD_replicate] at e
  refine xCall_of [] e ?_
  obtain rfl := Option.some.inj h
  exact fin
  refine wgo ?_
  repeat refine cj ?_
  refine kIf2 h (fun hb h => ?_) (fun hb h => ?_)
  refine wgo ?_
  repeat refine cj ?_
  refine kIf2 h (fun hb h => ?_) (fun hb h => ?_)
  obtain rfl := Option.some.inj h
  exact fin
  refine wgo ?_
  repeat refine cj ?_
  refine kIf2 h (fun hb h => ?_) (fun hb h => ?_)
  refine wgo ?_
  repeat refine cj ?_
  obtain ⟨y34_3, hy34_3, h⟩ := bd h
  have e := novationseat_Deck_N.spec hy34_3
  try simp only [go_sem, List.map_set, rowsD_append, rowsD_cons, rowsD_nil, rowsD_set, rowsD_take, rowsD_drop, rowsD_replicate] at e
  refine xCall_of [] e ?_
  refine wgo ?_
  repeat refine cj ?_
  obtain ⟨y34_6, hy34_6, h⟩ := bd h
  have e := novationseat_Deck_N.spec hy34_6
  try simp only [go_sem, List.map_set, rowsD_append, rowsD_cons, rowsD_nil, rowsD_set, rowsD_take, rowsD_drop, rowsD_replicate] at e
  refine xCall_of [] e ?_
  obtain ⟨⟨hg34_11_0, hg34_11_1⟩, h⟩ := gd h
  obtain rfl := Option.some.inj h
  exact fin
  refine wgo ?_
  repeat refine cj ?_
  refine kIf2 h (fun hb h => ?_) (fun hb h => ?_)
  refine wgo ?_
  repeat refine cj ?_
  obtain ⟨y36_3, hy36_3, h⟩ := bd h
  have e := novationseat_Deck_N.spec hy36_3
  try simp only [go_sem, List.map_set, rowsD_append, rowsD_cons, rowsD_nil, rowsD_set, rowsD_take, rowsD_drop, rowsD_replicate] at e
  refine xCall_of [] e ?_
  refine wgo ?_
  repeat refine cj ?_
  obtain ⟨y36_6, hy36_6, h⟩ := bd h
  have e := novationseat_Deck_N.spec hy36_6
  try simp only [go_sem, List.map_set, rowsD_append, rowsD_cons, rowsD_nil, rowsD_set, rowsD_take, rowsD_drop, rowsD_replicate] at e
  refine xCall_of [] e ?_
  obtain rfl := Option.some.inj h
  exact fin
  refine wgo ?_
  repeat refine cj ?_
  obtain ⟨y37_2, hy37_2, h⟩ := bd h
  have e := novationseat_Deck_order.spec hy37_2
  try simp only [go_sem, List.map_set, rowsD_append, rowsD_cons, rowsD_nil, rowsD_set, rowsD_take, rowsD_drop, rowsD_replicate] at e
  refine xCall_of [] e ?_
  obtain rfl := Option.some.inj h
  exact fin
  refine wgo ?_
  repeat refine cj ?_
  refine kIf2 h (fun hb h => ?_) (fun hb h => ?_)
  obtain rfl := Option.some.inj h
  exact fin
  refine wgo ?_
  repeat refine cj ?_
  refine kIf2 h (fun hb h => ?_) (fun hb h => ?_)
  refine wgo ?_
  repeat refine cj ?_
  obtain ⟨y34_3, hy34_3, h⟩ := bd h
  have e := novationseat_Deck_N.spec hy34_3
  try simp only [go_sem, List.map_set, rowsD_append, rowsD_cons, rowsD_nil, rowsD_set, rowsD_take, rowsD_drop, rowsD_replicate] at e
  refine xCall_of [] e ?_
  refine wgo ?_
  repeat refine cj ?_
  obtain ⟨y34_6, hy34_6, h⟩ := bd h
  have e := novationseat_Deck_N.spec hy34_6
  try simp only [go_sem, List.map_set, rowsD_append, rowsD_cons, rowsD_nil, rowsD_set, rowsD_take, rowsD_drop, rowsD_replicate] at e
  refine xCall_of [] e ?_
  obtain ⟨⟨hg34_11_0, hg34_11_1⟩, h⟩ := gd h
  obtain rfl := Option.some.inj h
  exact fin
  refine wgo ?_
  repeat refine cj ?_
  refine kIf2 h (fun hb h => ?_) (fun hb h => ?_)
  refine wgo ?_
  repeat refine cj ?_
  obtain ⟨y36_3, hy36_3, h⟩ := bd h
  have e := novationseat_Deck_N.spec hy36_3
  try simp only [go_sem, List.map_set, rowsD_append, rowsD_cons, rowsD_nil, rowsD_set, rowsD_take, rowsD_drop, rowsD_replicate] at e
  refine xCall_of [] e ?_
  refine wgo ?_
  repeat refine cj ?_
  obtain ⟨y36_6, hy36_6, h⟩ := bd h
  have e := novationseat_Deck_N.spec hy36_6
  try simp only [go_sem, List.map_set, rowsD_append, rowsD_cons, rowsD_nil, rowsD_set, rowsD_take, rowsD_drop, rowsD_replicate] at e
  refine xCall_of [] e ?_
  obtain rfl := Option.some.inj h
  exact fin
  refine wgo ?_
  repeat refine cj ?_
  obtain ⟨y37_2, hy37_2, h⟩ := bd h
  have e := novationseat_Deck_order.spec hy37_2
  try simp only [go_sem, List.map_set, rowsD_append, rowsD_cons, rowsD_nil, rowsD_set, rowsD_take, rowsD_drop, rowsD_replicate] at e
  refine xCall_of [] e ?_
  obtain rfl := Option.some.inj h
  exact fin
  refine wgo ?_
  repeat refine cj ?_
  refine kIf2 h (fun hb h => ?_) (fun hb h => ?_)
  refine wgo ?_
  repeat refine cj ?_
  obtain ⟨y16_3, hy16_3, h⟩ := bd h
  have e := novationseat_Deck_Some.spec hy16_3
  try simp only [go_sem, List.map_set, rowsD_append, rowsD_cons, rowsD_nil, rowsD_set, rowsD_take, rowsD_drop, rowsD_replicate] at e
  refine xCall_of [] e ?_
  obtain rfl := Option.some.inj h
  exact fin
  refine wgo ?_
  repeat refine cj ?_
  refine kIf2 h (fun hb h => ?_) (fun hb h => ?_)
  refine wgo ?_
  repeat refine cj ?_
  obtain ⟨y18_3, hy18_3, h⟩ := bd h
  have e := novationseat_Deck_Some.spec hy18_3
  try simp only [go_sem, List.map_set, rowsD_append, rowsD_cons, rowsD_nil, rowsD_set, rowsD_take, rowsD_drop, rowsD_replicate] at e
  refine xCall_of [] e ?_
  obtain rfl := Option.some.inj h
  exact fin
  refine wgo ?_
  repeat refine cj ?_
  refine kIf2 h (fun hb h => ?_) (fun hb h => ?_)
  refine wgo ?_
  repeat refine cj ?_
  obtain ⟨y20_3, hy20_3, h⟩ := bd h
  have e := novationseat_Deck_N.spec hy20_3
  try simp only [go_sem, List.map_set, rowsD_append, rowsD_cons, rowsD_nil, rowsD_set, rowsD_take, rowsD_drop, rowsD_replicate] at e
  refine xCall_of [] e ?_
  obtain rfl := Option.some.inj h
  exact fin
  refine wgo ?_
  repeat refine cj ?_
  refine kIf2 h (fun hb h => ?_) (fun hb h => ?_)
  refine wgo ?_
  repeat refine cj ?_
  obtain ⟨y22_3, hy22_3, h⟩ := bd h
  have e := novationseat_Deck_mark.spec hy22_3
  try simp only [go_sem, List.map_set, rowsD_append, rowsD_cons, rowsD_nil, rowsD_set, rowsD_take, rowsD_drop, rowsD_replicate] at e
  refine xCall_of [] e ?_
  obtain rfl := Option.some.inj h
  exact fin
  refine wgo ?_
  repeat refine cj ?_
  refine kIf2 h (fun hb h => ?_) (fun hb h => ?_)
  refine wgo ?_
  repeat refine cj ?_
  obtain ⟨y24_2, hy24_2, h⟩ := bd h
  have e := novationseat_Deck_N.spec hy24_2
  try simp only [go_sem, List.map_set, rowsD_append, rowsD_cons, rowsD_nil, rowsD_set, rowsD_take, rowsD_drop, rowsD_replicate] at e
  refine xCall_of [] e ?_
  obtain rfl := Option.some.inj h
  exact fin
  refine wgo ?_
  repeat refine cj ?_
  refine kIf2 h (fun hb h => ?_) (fun hb h => ?_)
  obtain rfl := Option.some.inj h
  exact fin
  refine wgo ?_
  repeat refine cj ?_
  refine kIf2 h (fun hb h => ?_) (fun hb h => ?_)
  refine wgo ?_
  repeat refine cj ?_
  refine kIf2 h (fun hb h => ?_) (fun hb h => ?_)
  obtain rfl := Option.some.inj h
  exact fin
  refine wgo ?_
  repeat refine cj ?_
  refine kIf2 h (fun hb h => ?_) (fun hb h => ?_)
  refine wgo ?_
  repeat refine cj ?_
  obtain ⟨y34_3, hy34_3, h⟩ := bd h
  have e := novationseat_Deck_N.spec hy34_3
  try simp only [go_sem, List.map_set, rowsD_append, rowsD_cons, rowsD_nil, rowsD_set, rowsD_take, rowsD_drop, rowsD_replicate] at e
  refine xCall_of [] e ?_
  refine wgo ?_
  repeat refine cj ?_
  obtain ⟨y34_6, hy34_6, h⟩ := bd h
  have e := novationseat_Deck_N.spec hy34_6
  try simp only [go_sem, List.map_set, rowsD_append, rowsD_cons, rowsD_nil, rowsD_set, rowsD_take, rowsD_drop, rowsD_replicate] at e
  refine xCall_of [] e ?_
  obtain ⟨⟨hg34_11_0, hg34_11_1⟩, h⟩ := gd h
  obtain rfl := Option.some.inj h
  exact fin
  refine wgo ?_
  repeat refine cj ?_
  refine kIf2 h (fun hb h => ?_) (fun hb h => ?_)
  refine wgo ?_
  repeat refine cj ?_
  obtain ⟨y36_3, hy36_3, h⟩ := bd h
  have e := novationseat_Deck_N.spec hy36_3
  try simp only [go_sem, List.map_set, rowsD_append, rowsD_cons, rowsD_nil, rowsD_set, rowsD_take, rowsD_drop, rowsD_replicate] at e
  refine xCall_of [] e ?_
  refine wgo ?_
  repeat refine cj ?_
  obtain ⟨y36_6, hy36_6, h⟩ := bd h
  have e := novationseat_Deck_N.spec hy36_6
  try simp only [go_sem, List.map_set, rowsD_append, rowsD_cons, rowsD_nil, rowsD_set, rowsD_take, rowsD_drop, rowsD_replicate] at e
  refine xCall_of [] e ?_
  obtain rfl := Option.some.inj h
  exact fin
  refine wgo ?_
  repeat refine cj ?_
  obtain ⟨y37_2, hy37_2, h⟩ := bd h
  have e := novationseat_Deck_order.spec hy37_2
  try simp only [go_sem, List.map_set, rowsD_append, rowsD_cons, rowsD_nil, rowsD_set, rowsD_take, rowsD_drop, rowsD_replicate] at e
  refine xCall_of [] e ?_
  obtain rfl := Option.some.inj h
  exact fin
  refine wgo ?_
  repeat refine cj ?_
  refine kIf2 h (fun hb h => ?_) (fun hb h => ?_)
  refine wgo ?_
  repeat refine cj ?_
  refine kIf2 h (fun hb h => ?_) (fun hb h => ?_)
  obtain rfl := Option.some.inj h
  exact fin
  refine wgo ?_
  repeat refine cj ?_
  refine kIf2 h (fun hb h => ?_) (fun hb h => ?_)
  refine wgo ?_
  repeat refine cj ?_
  obtain ⟨y34_3, hy34_3, h⟩ := bd h
  have e := novationseat_Deck_N.spec hy34_3
  try simp only [go_sem, List.map_set, rowsD_append, rowsD_cons, rowsD_nil, rowsD_set, rowsD_take, rowsD_drop, rowsD_replicate] at e
  refine xCall_of [] e ?_
  refine wgo ?_
  repeat refine cj ?_
  obtain ⟨y34_6, hy34_6, h⟩ := bd h
  have e := novationseat_Deck_N.spec hy34_6
  try simp only [go_sem, List.map_set, rowsD_append, rowsD_cons, rowsD_nil, rowsD_set, rowsD_take, rowsD_drop, rowsD_replicate] at e
  refine xCall_of [] e ?_
  obtain ⟨⟨hg34_11_0, hg34_11_1⟩, h⟩ := gd h
  obtain rfl := Option.some.inj h
  exact fin
  refine wgo ?_
  repeat refine cj ?_
  refine kIf2 h (fun hb h => ?_) (fun hb h => ?_)
  refine wgo ?_
  repeat refine cj ?_
  obtain ⟨y36_3, hy36_3, h⟩ := bd h
  have e := novationseat_Deck_N.spec hy36_3
  try simp only [go_sem, List.map_set, rowsD_append, rowsD_cons, rowsD_nil, rowsD_set, rowsD_take, rowsD_drop, rowsD_replicate] at e
  refine xCall_of [] e ?_
  refine wgo ?_
  repeat refine cj ?_
  obtain ⟨y36_6, hy36_6, h⟩ := bd h
  have e := novationseat_Deck_N.spec hy36_6
  try simp only [go_sem, List.map_set, rowsD_append, rowsD_cons, rowsD_nil, rowsD_set, rowsD_take, rowsD_drop, rowsD_replicate] at e
  refine xCall_of [] e ?_
  obtain rfl := Option.some.inj h
  exact fin
  refine wgo ?_
  repeat refine cj ?_
  obtain ⟨y37_2, hy37_2, h⟩ := bd h
  have e := novationseat_Deck_order.spec hy37_2
  try simp only [go_sem, List.map_set, rowsD_append, rowsD_cons, rowsD_nil, rowsD_set, rowsD_take, rowsD_drop, rowsD_replicate] at e
  refine xCall_of [] e ?_
  obtain rfl := Option.some.inj h
  exact fin
  refine wgo ?_
  repeat refine cj ?_
  refine kIf2 h (fun hb h => ?_) (fun hb h => ?_)
  refine wgo ?_
  repeat refine cj ?_
  refine kIf2 h (fun hb h => ?_) (fun hb h => ?_)
  obtain rfl := Option.some.inj h
  exact fin
  refine wgo ?_
  repeat refine cj ?_
  refine kIf2 h (fun hb h => ?_) (fun hb h => ?_)
  refine wgo ?_
  repeat refine cj ?_
  obtain ⟨y34_3, hy34_3, h⟩ := bd h
  have e := novationseat_Deck_N.spec hy34_3
  try simp only [go_sem, List.map_set, rowsD_append, rowsD_cons, rowsD_nil, rowsD_set, rowsD_take, rowsD_drop, rowsD_replicate] at e
  refine xCall_of [] e ?_
  refine wgo ?_
  repeat refine cj ?_
  obtain ⟨y34_6, hy34_6, h⟩ := bd h
  have e := novationseat_Deck_N.spec hy34_6
  try simp only [go_sem, List.map_set, rowsD_append, rowsD_cons, rowsD_nil, rowsD_set, rowsD_take, rowsD_drop, rowsD_replicate] at e
  refine xCall_of [] e ?_
  obtain ⟨⟨hg34_11_0, hg34_11_1⟩, h⟩ := gd h
  obtain rfl := Option.some.inj h
  exact fin
  refine wgo ?_
  repeat refine cj ?_
  refine kIf2 h (fun hb h => ?_) (fun hb h => ?_)
  refine wgo ?_
  repeat refine cj ?_
  obtain ⟨y36_3, hy36_3, h⟩ := bd h
  have e := novationseat_Deck_N.spec hy36_3
  try simp only [go_sem, List.map_set, rowsD_append, rowsD_cons, rowsD_nil, rowsD_set, rowsD_take, rowsD_drop, rowsD_replicate] at e
  refine xCall_of [] e ?_
  refine wgo ?_
  repeat refine cj ?_
  obtain ⟨y36_6, hy36_6, h⟩ := bd h
  have e := novationseat_Deck_N.spec hy36_6
  try simp only [go_sem, List.map_set, rowsD_append, rowsD_cons, rowsD_nil, rowsD_set, rowsD_take, rowsD_drop, rowsD_replicate] at e
  refine xCall_of [] e ?_
  obtain rfl := Option.some.inj h
  exact fin
  refine wgo ?_
  repeat refine cj ?_
  obtain ⟨y37_2, hy37_2, h⟩ := bd h
  have e := novationseat_Deck_order.spec hy37_2
  try simp only [go_sem, List.map_set, rowsD_append, rowsD_cons, rowsD_nil, rowsD_set, rowsD_take, rowsD_drop, rowsD_replicate] at e
  refine xCall_of [] e ?_
  obtain rfl := Option.some.inj h
  exact fin
  refine wgo ?_
  repeat refine cj ?_
  refine kIf2 h (fun hb h => ?_) (fun hb h => ?_)
  refine wgo ?_
  repeat refine cj ?_
  refine kIf2 h (fun hb h => ?_) (fun hb h => ?_)
  obtain rfl := Option.some.inj h
  exact fin
  refine wgo ?_
  repeat refine cj ?_
  refine kIf2 h (fun hb h => ?_) (fun hb h => ?_)
  refine wgo ?_
  repeat refine cj ?_
  obtain ⟨y34_3, hy34_3, h⟩ := bd h
  have e := novationseat_Deck_N.spec hy34_3
  try simp only [go_sem, List.map_set, rowsD_append, rowsD_cons, rowsD_nil, rowsD_set, rowsD_take, rowsD_drop, rowsD_replicate] at e
  refine xCall_of [] e ?_
  refine wgo ?_
  repeat refine cj ?_
  obtain ⟨y34_6, hy34_6, h⟩ := bd h
  have e := novationseat_Deck_N.spec hy34_6
  try simp only [go_sem, List.map_set, rowsD_append, rowsD_cons, rowsD_nil, rowsD_set, rowsD_take, rowsD_drop, rowsD_replicate] at e
  refine xCall_of [] e ?_
  obtain ⟨⟨hg34_11_0, hg34_11_1⟩, h⟩ := gd h
  obtain rfl := Option.some.inj h
  exact fin
  refine wgo ?_
  repeat refine cj ?_
  refine kIf2 h (fun hb h => ?_) (fun hb h => ?_)
  refine wgo ?_
  repeat refine cj ?_
  obtain ⟨y36_3, hy36_3, h⟩ := bd h
  have e := novationseat_Deck_N.spec hy36_3
  try simp only [go_sem, List.map_set, rowsD_append, rowsD_cons, rowsD_nil, rowsD_set, rowsD_take, rowsD_drop, rowsD_replicate] at e
  refine xCall_of [] e ?_
  refine wgo ?_
  repeat refine cj ?_
  obtain ⟨y36_6, hy36_6, h⟩ := bd h
  have e := novationseat_Deck_N.spec hy36_6
  try simp only [go_sem, List.map_set, rowsD_append, rowsD_cons, rowsD_nil, rowsD_set, rowsD_take, rowsD_drop, rowsD_replicate] at e
  refine xCall_of [] e ?_
  obtain rfl := Option.some.inj h
  exact fin
  refine wgo ?_
  repeat refine cj ?_
  obtain ⟨y37_2, hy37_2, h⟩ := bd h
  have e := novationseat_Deck_order.spec hy37_2
  try simp only [go_sem, List.map_set, rowsD_append, rowsD_cons, rowsD_nil, rowsD_set, rowsD_take, rowsD_drop, rowsD_replicate] at e
  refine xCall_of [] e ?_
  obtain rfl := Option.some.inj h
  exact fin
  refine wgo ?_
  repeat refine cj ?_
  refine kIf2 h (fun hb h => ?_) (fun hb h => ?_)
  obtain rfl := Option.some.inj h
  exact fin
  refine wgo ?_
  repeat refine cj ?_
  refine kIf2 h (fun hb h => ?_) (fun hb h => ?_)
  refine wgo ?_
  repeat refine cj ?_
  obtain ⟨y34_3, hy34_3, h⟩ := bd h
  have e := novationseat_Deck_N.spec hy34_3
  try simp only [go_sem, List.map_set, rowsD_append, rowsD_cons, rowsD_nil, rowsD_set, rowsD_take, rowsD_drop, rowsD_replicate] at e
  refine xCall_of [] e ?_
  refine wgo ?_
  repeat refine cj ?_
  obtain ⟨y34_6, hy34_6, h⟩ := bd h
  have e := novationseat_Deck_N.spec hy34_6
  try simp only [go_sem, List.map_set, rowsD_append, rowsD_cons, rowsD_nil, rowsD_set, rowsD_take, rowsD_drop, rowsD_replicate] at e
  refine xCall_of [] e ?_
  obtain ⟨⟨hg34_11_0, hg34_11_1⟩, h⟩ := gd h
  obtain rfl := Option.some.inj h
  exact fin
  refine wgo ?_
  repeat refine cj ?_
  refine kIf2 h (fun hb h => ?_) (fun hb h => ?_)
  refine wgo ?_
  repeat refine cj ?_
  obtain ⟨y36_3, hy36_3, h⟩ := bd h
  have e := novationseat_Deck_N.spec hy36_3
  try simp only [go_sem, List.map_set, rowsD_append, rowsD_cons, rowsD_nil, rowsD_set, rowsD_take, rowsD_drop, rowsD_replicate] at e
  refine xCall_of [] e ?_
  refine wgo ?_
  repeat refine cj ?_
  obtain ⟨y36_6, hy36_6, h⟩ := bd h
  have e := novationseat_Deck_N.spec hy36_6
  try simp only [go_sem, List.map_set, rowsD_append, rowsD_cons, rowsD_nil, rowsD_set, rowsD_take, rowsD_drop, rowsD_replicate] at e
  refine xCall_of [] e ?_
  obtain rfl := Option.some.inj h
  exact fin
  refine wgo ?_
  repeat refine cj ?_
  obtain ⟨y37_2, hy37_2, h⟩ := bd h
  have e := novationseat_Deck_order.spec hy37_2
  try simp only [go_sem, List.map_set, rowsD_append, rowsD_cons, rowsD_nil, rowsD_set, rowsD_take, rowsD_drop, rowsD_replicate] at e
  refine xCall_of [] e ?_
  obtain rfl := Option.some.inj h
  exact fin
  refine wgo ?_
  repeat refine cj ?_
  refine kIf2 h (fun hb h => ?_) (fun hb h => ?_)
  refine wgo ?_
  repeat refine cj ?_
  obtain ⟨y13_3, hy13_3, h⟩ := bd h
  have e := novationseat_Deck_Some.spec hy13_3
  try simp only [go_sem, List.map_set, rowsD_append, rowsD_cons, rowsD_nil, rowsD_set, rowsD_take, rowsD_drop, rowsD_replicate] at e
  refine xCall_of [] e ?_
  obtain rfl := Option.some.inj h
  exact fin
  refine wgo ?_
  repeat refine cj ?_
  refine kIf2 h (fun hb h => ?_) (fun hb h => ?_)
  refine wgo ?_
  repeat refine cj ?_
  refine kIf2 h (fun hb h => ?_) (fun hb h => ?_)
  refine wgo ?_
  repeat refine cj ?_
  obtain ⟨y16_3, hy16_3, h⟩ := bd h
  have e := novationseat_Deck_Some.spec hy16_3
  try simp only [go_sem, List.map_set, rowsD_append, rowsD_cons, rowsD_nil, rowsD_set, rowsD_take, rowsD_drop, rowsD_replicate] at e
  refine xCall_of [] e ?_
  obtain rfl := Option.some.inj h
  exact fin
  refine wgo ?_
  repeat refine cj ?_
  refine kIf2 h (fun hb h => ?_) (fun hb h => ?_)
  refine wgo ?_
  repeat refine cj ?_
  obtain ⟨y18_3, hy18_3, h⟩ := bd h
  have e := novationseat_Deck_Some.spec hy18_3
  try simp only [go_sem, List.map_set, rowsD_append, rowsD_cons, rowsD_nil, rowsD_set, rowsD_take, rowsD_drop, rowsD_replicate] at e
  refine xCall_of [] e ?_
  obtain rfl := Option.some.inj h
  exact fin
  refine wgo ?_
  repeat refine cj ?_
  refine kIf2 h (fun hb h => ?_) (fun hb h => ?_)
  refine wgo ?_
  repeat refine cj ?_
  obtain ⟨y20_3, hy20_3, h⟩ := bd h
  have e := novationseat_Deck_N.spec hy20_3
  try simp only [go_sem, List.map_set, rowsD_append, rowsD_cons, rowsD_nil, rowsD_set, rowsD_take, rowsD_drop, rowsD_replicate] at e
  refine xCall_of [] e ?_
  obtain rfl := Option.some.inj h
  exact fin
  refine wgo ?_
  repeat refine cj ?_
  refine kIf2 h (fun hb h => ?_) (fun hb h => ?_)
  refine wgo ?_
  repeat refine cj ?_
  obtain ⟨y22_3, hy22_3, h⟩ := bd h
  have e := novationseat_Deck_mark.spec hy22_3
  try simp only [go_sem, List.map_set, rowsD_append, rowsD_cons, rowsD_nil, rowsD_set, rowsD_take, rowsD_drop, rowsD_replicate] at e
  refine xCall_of [] e ?_
  obtain rfl := Option.some.inj h
  exact fin
  refine wgo ?_
  repeat refine cj ?_
  refine kIf2 h (fun hb h => ?_) (fun hb h => ?_)
  refine wgo ?_
  repeat refine cj ?_
  obtain ⟨y24_2, hy24_2, h⟩ := bd h
  have e := novationseat_Deck_N.spec hy24_2
  try simp only [go_sem, List.map_set, rowsD_append, rowsD_cons, rowsD_nil, rowsD_set, rowsD_take, rowsD_drop, rowsD_replicate] at e
  refine xCall_of [] e ?_
  obtain rfl := Option.some.inj h
  exact fin
  refine wgo ?_
  repeat refine cj ?_
  refine kIf2 h (fun hb h => ?_) (fun hb h => ?_)
  obtain rfl := Option.some.inj h
  exact fin
  refine wgo ?_
  repeat refine cj ?_
  refine kIf2 h (fun hb h => ?_) (fun hb h => ?_)
  refine wgo ?_
  repeat refine cj ?_
  refine kIf2 h (fun hb h => ?_) (fun hb h => ?_)
  obtain rfl := Option.some.inj h
  exact fin
  refine wgo ?_
  repeat refine cj ?_
  refine kIf2 h (fun hb h => ?_) (fun hb h => ?_)
  refine wgo ?_
  repeat refine cj ?_
  obtain ⟨y34_3, hy34_3, h⟩ := bd h
  have e := novationseat_Deck_N.spec hy34_3
  try simp only [go_sem, List.map_set, rowsD_append, rowsD_cons, rowsD_nil, rowsD_set, rowsD_take, rowsD_drop, rowsD_replicate] at e
  refine xCall_of [] e ?_
  refine wgo ?_
  repeat refine cj ?_
  obtain ⟨y34_6, hy34_6, h⟩ := bd h
  have e := novationseat_Deck_N.spec hy34_6
  try simp only [go_sem, List.map_set, rowsD_append, rowsD_cons, rowsD_nil, rowsD_set, rowsD_take, rowsD_drop, rowsD_replicate] at e
  refine xCall_of [] e ?_
  obtain ⟨⟨hg34_11_0, hg34_11_1⟩, h⟩ := gd h
  obtain rfl := Option.some.inj h
  exact fin
  refine wgo ?_
  repeat refine cj ?_
  refine kIf2 h (fun hb h => ?_) (fun hb h => ?_)
  refine wgo ?_
  repeat refine cj ?_
  obtain ⟨y36_3, hy36_3, h⟩ := bd h
  have e := novationseat_Deck_N.spec hy36_3
  try simp only [go_sem, List.map_set, rowsD_append, rowsD_cons, rowsD_nil, rowsD_set, rowsD_take, rowsD_drop, rowsD_replicate] at e
  refine xCall_of [] e ?_
  refine wgo ?_
  repeat refine cj ?_
  obtain ⟨y36_6, hy36_6, h⟩ := bd h
  have e := novationseat_Deck_N.spec hy36_6
  try simp only [go_sem, List.map_set, rowsD_append, rowsD_cons, rowsD_nil, rowsD_set, rowsD_take, rowsD_drop, rowsD_replicate] at e
  refine xCall_of [] e ?_
  obtain rfl := Option.some.inj h
  exact fin
  refine wgo ?_
  repeat refine cj ?_
  obtain ⟨y37_2, hy37_2, h⟩ := bd h
  have e := novationseat_Deck_order.spec hy37_2
  try simp only [go_sem, List.map_set, rowsD_append, rowsD_cons, rowsD_nil, rowsD_set, rowsD_take, rowsD_drop, rowsD_replicate] at e
  refine xCall_of [] e ?_
  obtain rfl := Option.some.inj h
  exact fin
  refine wgo ?_
  repeat refine cj ?_
  refine kIf2 h (fun hb h => ?_) (fun hb h => ?_)
  refine wgo ?_
  repeat refine cj ?_
  refine kIf2 h (fun hb h => ?_) (fun hb h => ?_)
  obtain rfl := Option.some.inj h
  exact fin
  refine wgo ?_
  repeat refine cj ?_
  refine kIf2 h (fun hb h => ?_) (fun hb h => ?_)
  refine wgo ?_
  repeat refine cj ?_
  obtain ⟨y34_3, hy34_3, h⟩ := bd h
  have e := novationseat_Deck_N.spec hy34_3
  try simp only [go_sem, List.map_set, rowsD_append, rowsD_cons, rowsD_nil, rowsD_set, rowsD_take, rowsD_drop, rowsD_replicate] at e
  refine xCall_of [] e ?_
  refine wgo ?_
  repeat refine cj ?_
  obtain ⟨y34_6, hy34_6, h⟩ := bd h
  have e := novationseat_Deck_N.spec hy34_6
  try simp only [go_sem, List.map_set, rowsD_append, rowsD_cons, rowsD_nil, rowsD_set, rowsD_take, rowsD_drop, rowsD_replicate] at e
  refine xCall_of [] e ?_
  obtain ⟨⟨hg34_11_0, hg34_11_1⟩, h⟩ := gd h
  obtain rfl := Option.some.inj h
  exact fin
  refine wgo ?_
  repeat refine cj ?_
  refine kIf2 h (fun hb h => ?_) (fun hb h => ?_)
  refine wgo ?_
  repeat refine cj ?_
  obtain ⟨y36_3, hy36_3, h⟩ := bd h
  have e := novationseat_Deck_N.spec hy36_3
  try simp only [go_sem, List.map_set, rowsD_append, rowsD_cons, rowsD_nil, rowsD_set, rowsD_take, rowsD_drop, rowsD_replicate] at e
  refine xCall_of [] e ?_
  refine wgo ?_
  repeat refine cj ?_
  obtain ⟨y36_6, hy36_6, h⟩ := bd h
  have e := novationseat_Deck_N.spec hy36_6
  try simp only [go_sem, List.map_set, rowsD_append, rowsD_cons, rowsD_nil, rowsD_set, rowsD_take, rowsD_drop, rowsD_replicate] at e
  refine xCall_of [] e ?_
  obtain rfl := Option.some.inj h
  exact fin
  refine wgo ?_
  repeat refine cj ?_
  obtain ⟨y37_2, hy37_2, h⟩ := bd h
  have e := novationseat_Deck_order.spec hy37_2
  try simp only [go_sem, List.map_set, rowsD_append, rowsD_cons, rowsD_nil, rowsD_set, rowsD_take, rowsD_drop, rowsD_replicate] at e
  refine xCall_of [] e ?_
  obtain rfl := Option.some.inj h
  exact fin
  refine wgo ?_
  repeat refine cj ?_
  refine kIf2 h (fun hb h => ?_) (fun hb h => ?_)
  refine wgo ?_
  repeat refine cj ?_
  refine kIf2 h (fun hb h => ?_) (fun hb h => ?_)
  obtain rfl := Option.some.inj h
  exact fin
  refine wgo ?_
  repeat refine cj ?_
  refine kIf2 h (fun hb h => ?_) (fun hb h => ?_)
  refine wgo ?_
  repeat refine cj ?_
  obtain ⟨y34_3, hy34_3, h⟩ := bd h
  have e := novationseat_Deck_N.spec hy34_3
  try simp only [go_sem, List.map_set, rowsD_append, rowsD_cons, rowsD_nil, rowsD_set, rowsD_take, rowsD_drop, rowsD_replicate] at e
  refine xCall_of [] e ?_
  refine wgo ?_
  repeat refine cj ?_
  obtain ⟨y34_6, hy34_6, h⟩ := bd h
  have e := novationseat_Deck_N.spec hy34_6
  try simp only [go_sem, List.map_set, rowsD_append, rowsD_cons, rowsD_nil, rowsD_set, rowsD_take, rowsD_drop, rowsD_replicate] at e
  refine xCall_of [] e ?_
  obtain ⟨⟨hg34_11_0, hg34_11_1⟩, h⟩ := gd h
  obtain rfl := Option.some.inj h
  exact fin
  refine wgo ?_
  repeat refine cj ?_
  refine kIf2 h (fun hb h => ?_) (fun hb h => ?_)
  refine wgo ?_
  repeat refine cj ?_
  obtain ⟨y36_3, hy36_3, h⟩ := bd h
  have e := novationseat_Deck_N.spec hy36_3
  try simp only [go_sem, List.map_set, rowsD_append, rowsD_cons, rowsD_nil, rowsD_set, rowsD_take, rowsD_drop, rowsD_replicate] at e
  refine xCall_of [] e ?_
  refine wgo ?_
  repeat refine cj ?_
  obtain ⟨y36_6, hy36_6, h⟩ := bd h
  have e := novationseat_Deck_N.spec hy36_6
  try simp only [go_sem, List.map_set, rowsD_append, rowsD_cons, rowsD_nil, rowsD_set, rowsD_take, rowsD_drop, rowsD_replicate] at e
  refine xCall_of [] e ?_
  obtain rfl := Option.some.inj h
  exact fin
  refine wgo ?_
  repeat refine cj ?_
  obtain ⟨y37_2, hy37_2, h⟩ := bd h
  have e := novationseat_Deck_order.spec hy37_2
  try simp only [go_sem, List.map_set, rowsD_append, rowsD_cons, rowsD_nil, rowsD_set, rowsD_take, rowsD_drop, rowsD_replicate] at e
  refine xCall_of [] e ?_
  obtain rfl := Option.some.inj h
  exact fin
  refine wgo ?_
  repeat refine cj ?_
  refine kIf2 h (fun hb h => ?_) (fun hb h => ?_)
  refine wgo ?_
  repeat refine cj ?_
  refine kIf2 h (fun hb h => ?_) (fun hb h => ?_)
  obtain rfl := Option.some.inj h
  exact fin
  refine wgo ?_
  repeat refine cj ?_
  refine kIf2 h (fun hb h => ?_) (fun hb h => ?_)
  refine wgo ?_
  repeat refine cj ?_
  obtain ⟨y34_3, hy34_3, h⟩ := bd h
  have e := novationseat_Deck_N.spec hy34_3
  try simp only [go_sem, List.map_set, rowsD_append, rowsD_cons, rowsD_nil, rowsD_set, rowsD_take, rowsD_drop, rowsD_replicate] at e
  refine xCall_of [] e ?_
  refine wgo ?_
  repeat refine cj ?_
  obtain ⟨y34_6, hy34_6, h⟩ := bd h
  have e := novationseat_Deck_N.spec hy34_6
  try simp only [go_sem, List.map_set, rowsD_append, rowsD_cons, rowsD_nil, rowsD_set, rowsD_take, rowsD_drop, rowsD_replicate] at e
  refine xCall_of [] e ?_
  obtain ⟨⟨hg34_11_0, hg34_11_1⟩, h⟩ := gd h
  obtain rfl := Option.some.inj h
  exact fin
  refine wgo ?_
  repeat refine cj ?_
  refine kIf2 h (fun hb h => ?_) (fun hb h => ?_)
  refine wgo ?_
  repeat refine cj ?_
  obtain ⟨y36_3, hy36_3, h⟩ := bd h
  have e := novationseat_Deck_N.spec hy36_3
  try simp only [go_sem, List.map_set, rowsD_append, rowsD_cons, rowsD_nil, rowsD_set, rowsD_take, rowsD_drop, rowsD_replicate] at e
  refine xCall_of [] e ?_
  refine wgo ?_
  repeat refine cj ?_
  obtain ⟨y36_6, hy36_6, h⟩ := bd h
  have e := novationseat_Deck_N.spec hy36_6
  try simp only [go_sem, List.map_set, rowsD_append, rowsD_cons, rowsD_nil, rowsD_set, rowsD_take, rowsD_drop, rowsD_replicate] at e
  refine xCall_of [] e ?_
  obtain rfl := Option.some.inj h
  exact fin
  refine wgo ?_
  repeat refine cj ?_
  obtain ⟨y37_2, hy37_2, h⟩ := bd h
  have e := novationseat_Deck_order.spec hy37_2
  try simp only [go_sem, List.map_set, rowsD_append, rowsD_cons, rowsD_nil, rowsD_set, rowsD_take, rowsD_drop, rowsD_replicate] at e
  refine xCall_of [] e ?_
  obtain rfl := Option.some.inj h
  exact fin
  refine wgo ?_
  repeat refine cj ?_
  refine kIf2 h (fun hb h => ?_) (fun hb h => ?_)
  obtain rfl := Option.some.inj h
  exact fin
  refine wgo ?_
  repeat refine cj ?_
  refine kIf2 h (fun hb h => ?_) (fun hb h => ?_)
  refine wgo ?_
  repeat refine cj ?_
  obtain ⟨y34_3, hy34_3, h⟩ := bd h
  have e := novationseat_Deck_N.spec hy34_3
  try simp only [go_sem, List.map_set, rowsD_append, rowsD_cons, rowsD_nil, rowsD_set, rowsD_take, rowsD_drop, rowsD_replicate] at e
  refine xCall_of [] e ?_
  refine wgo ?_
  repeat refine cj ?_
  obtain ⟨y34_6, hy34_6, h⟩ := bd h
  have e := novationseat_Deck_N.spec hy34_6
  try simp only [go_sem, List.map_set, rowsD_append, rowsD_cons, rowsD_nil, rowsD_set, rowsD_take, rowsD_drop, rowsD_replicate] at e
  refine xCall_of [] e ?_
  obtain ⟨⟨hg34_11_0, hg34_11_1⟩, h⟩ := gd h
  obtain rfl := Option.some.inj h
  exact fin
  refine wgo ?_
  repeat refine cj ?_
  refine kIf2 h (fun hb h => ?_) (fun hb h => ?_)
  refine wgo ?_
  repeat refine cj ?_
  obtain ⟨y36_3, hy36_3, h⟩ := bd h
  have e := novationseat_Deck_N.spec hy36_3
  try simp only [go_sem, List.map_set, rowsD_append, rowsD_cons, rowsD_nil, rowsD_set, rowsD_take, rowsD_drop, rowsD_replicate] at e
  refine xCall_of [] e ?_
  refine wgo ?_
  repeat refine cj ?_
  obtain ⟨y36_6, hy36_6, h⟩ := bd h
  have e := novationseat_Deck_N.spec hy36_6
  try simp only [go_sem, List.map_set, rowsD_append, rowsD_cons, rowsD_nil, rowsD_set, rowsD_take, rowsD_drop, rowsD_replicate] at e
  refine xCall_of [] e ?_
  obtain rfl := Option.some.inj h
  exact fin
  refine wgo ?_
  repeat refine cj ?_
  obtain ⟨y37_2, hy37_2, h⟩ := bd h
  have e := novationseat_Deck_order.spec hy37_2
  try simp only [go_sem, List.map_set, rowsD_append, rowsD_cons, rowsD_nil, rowsD_set, rowsD_take, rowsD_drop, rowsD_replicate] at e
  refine xCall_of [] e ?_
  obtain rfl := Option.some.inj h
  exact fin
  refine wgo ?_
  repeat refine cj ?_
  refine kIf2 h (fun hb h => ?_) (fun hb h => ?_)
  refine wgo ?_
  repeat refine cj ?_
  obtain ⟨y16_3, hy16_3, h⟩ := bd h
  have e := novationseat_Deck_Some.spec hy16_3
  try simp only [go_sem, List.map_set, rowsD_append, rowsD_cons, rowsD_nil, rowsD_set, rowsD_take, rowsD_drop, rowsD_replicate] at e
  refine xCall_of [] e ?_
  obtain rfl := Option.some.inj h
  exact fin
  refine wgo ?_
  repeat refine cj ?_
  refine kIf2 h (fun hb h => ?_) (fun hb h => ?_)
  refine wgo ?_
  repeat refine cj ?_
  obtain ⟨y18_3, hy18_3, h⟩ := bd h
  have e := novationseat_Deck_Some.spec hy18_3
  try simp only [go_sem, List.map_set, rowsD_append, rowsD_cons, rowsD_nil, rowsD_set, rowsD_take, rowsD_drop, rowsD_replicate] at e
  refine xCall_of [] e ?_
  obtain rfl := Option.some.inj h
  exact fin
  refine wgo ?_
  repeat refine cj ?_
  refine kIf2 h (fun hb h => ?_) (fun hb h => ?_)
  refine wgo ?_
  repeat refine cj ?_
  obtain ⟨y20_3, hy20_3, h⟩ := bd h
  have e := novationseat_Deck_N.spec hy20_3
  try simp only [go_sem, List.map_set, rowsD_append, rowsD_cons, rowsD_nil, rowsD_set, rowsD_take, rowsD_drop, rowsD_replicate] at e
  refine xCall_of [] e ?_
  obtain rfl := Option.some.inj h
  exact fin
  refine wgo ?_
  repeat refine cj ?_
  refine kIf2 h (fun hb h => ?_) (fun hb h => ?_)
  refine wgo ?_
  repeat refine cj ?_
  obtain ⟨y22_3, hy22_3, h⟩ := bd h
  have e := novationseat_Deck_mark.spec hy22_3
  try simp only [go_sem, List.map_set, rowsD_append, rowsD_cons, rowsD_nil, rowsD_set, rowsD_take, rowsD_drop, rowsD_replicate] at e
  refine xCall_of [] e ?_
  obtain rfl := Option.some.inj h
  exact fin
  refine wgo ?_
  repeat refine cj ?_
  refine kIf2 h (fun hb h => ?_) (fun hb h => ?_)
  refine wgo ?_
  repeat refine cj ?_
  obtain ⟨y24_2, hy24_2, h⟩ := bd h
  have e := novationseat_Deck_N.spec hy24_2
  try simp only [go_sem, List.map_set, rowsD_append, rowsD_cons, rowsD_nil, rowsD_set, rowsD_take, rowsD_drop, rowsD_replicate] at e
  refine xCall_of [] e ?_
  obtain rfl := Option.some.inj h
  exact fin
  refine wgo ?_
  repeat refine cj ?_
  refine kIf2 h (fun hb h => ?_) (fun hb h => ?_)
  obtain rfl := Option.some.inj h
  exact fin
  refine wgo ?_
  repeat refine cj ?_
  refine kIf2 h (fun hb h => ?_) (fun hb h => ?_)
  refine wgo ?_
  repeat refine cj ?_
  refine kIf2 h (fun hb h => ?_) (fun hb h => ?_)
  obtain rfl := Option.some.inj h
  exact fin
  refine wgo ?_
  repeat refine cj ?_
  refine kIf2 h (fun hb h => ?_) (fun hb h => ?_)
  refine wgo ?_
  repeat refine cj ?_
  obtain ⟨y34_3, hy34_3, h⟩ := bd h
  have e := novationseat_Deck_N.spec hy34_3
  try simp only [go_sem, List.map_set, rowsD_append, rowsD_cons, rowsD_nil, rowsD_set, rowsD_take, rowsD_drop, rowsD_replicate] at e
  refine xCall_of [] e ?_
  refine wgo ?_
  repeat refine cj ?_
  obtain ⟨y34_6, hy34_6, h⟩ := bd h
  have e := novationseat_Deck_N.spec hy34_6
  try simp only [go_sem, List.map_set, rowsD_append, rowsD_cons, rowsD_nil, rowsD_set, rowsD_take, rowsD_drop, rowsD_replicate] at e
  refine xCall_of [] e ?_
  obtain ⟨⟨hg34_11_0, hg34_11_1⟩, h⟩ := gd h
  obtain rfl := Option.some.inj h
  exact fin
  refine wgo ?_
  repeat refine cj ?_
  refine kIf2 h (fun hb h => ?_) (fun hb h => ?_)
  refine wgo ?_
  repeat refine cj ?_
  obtain ⟨y36_3, hy36_3, h⟩ := bd h
  have e := novationseat_Deck_N.spec hy36_3
  try simp only [go_sem, List.map_set, rowsD_append, rowsD_cons, rowsD_nil, rowsD_set, rowsD_take, rowsD_drop, rowsD_replicate] at e
  refine xCall_of [] e ?_
  refine wgo ?_
  repeat refine cj ?_
  obtain ⟨y36_6, hy36_6, h⟩ := bd h
  have e := novationseat_Deck_N.spec hy36_6
  try simp only [go_sem, List.map_set, rowsD_append, rowsD_cons, rowsD_nil, rowsD_set, rowsD_take, rowsD_drop, rowsD_replicate] at e
  refine xCall_of [] e ?_
  obtain rfl := Option.some.inj h
  exact fin
  refine wgo ?_
  repeat refine cj ?_
  obtain ⟨y37_2, hy37_2, h⟩ := bd h
  have e := novationseat_Deck_order.spec hy37_2
  try simp only [go_sem, List.map_set, rowsD_append, rowsD_cons, rowsD_nil, rowsD_set, rowsD_take, rowsD_drop, rowsD_replicate] at e
  refine xCall_of [] e ?_
  obtain rfl := Option.some.inj h
  exact fin
  refine wgo ?_
  repeat refine cj ?_
  refine kIf2 h (fun hb h => ?_) (fun hb h => ?_)
  refine wgo ?_
  repeat refine cj ?_
  refine kIf2 h (fun hb h => ?_) (fun hb h => ?_)
  obtain rfl := Option.some.inj h
  exact fin
  refine wgo ?_
  repeat refine cj ?_
  refine kIf2 h (fun hb h => ?_) (fun hb h => ?_)
  refine wgo ?_
  repeat refine cj ?_
  obtain ⟨y34_3, hy34_3, h⟩ := bd h
  have e := novationseat_Deck_N.spec hy34_3
  try simp only [go_sem, List.map_set, rowsD_append, rowsD_cons, rowsD_nil, rowsD_set, rowsD_take, rowsD_drop, rowsD_replicate] at e
  refine xCall_of [] e ?_
  refine wgo ?_
  repeat refine cj ?_
  obtain ⟨y34_6, hy34_6, h⟩ := bd h
  have e := novationseat_Deck_N.spec hy34_6
  try simp only [go_sem, List.map_set, rowsD_append, rowsD_cons, rowsD_nil, rowsD_set, rowsD_take, rowsD_drop, rowsD_replicate] at e
  refine xCall_of [] e ?_
  obtain ⟨⟨hg34_11_0, hg34_11_1⟩, h⟩ := gd h
  obtain rfl := Option.some.inj h
  exact fin
  refine wgo ?_
  repeat refine cj ?_
  refine kIf2 h (fun hb h => ?_) (fun hb h => ?_)
  refine wgo ?_
  repeat refine cj ?_
  obtain ⟨y36_3, hy36_3, h⟩ := bd h
  have e := novationseat_Deck_N.spec hy36_3
  try simp only [go_sem, List.map_set, rowsD_append, rowsD_cons, rowsD_nil, rowsD_set, rowsD_take, rowsD_drop, rowsD_replicate] at e
  refine xCall_of [] e ?_
  refine wgo ?_
  repeat refine cj ?_
  obtain ⟨y36_6, hy36_6, h⟩ := bd h
  have e := novationseat_Deck_N.spec hy36_6
  try simp only [go_sem, List.map_set, rowsD_append, rowsD_cons, rowsD_nil, rowsD_set, rowsD_take, rowsD_drop, rowsD_replicate] at e
  refine xCall_of [] e ?_
  obtain rfl := Option.some.inj h
  exact fin
  refine wgo ?_
  repeat refine cj ?_
  obtain ⟨y37_2, hy37_2, h⟩ := bd h
  have e := novationseat_Deck_order.spec hy37_2
  try simp only [go_sem, List.map_set, rowsD_append, rowsD_cons, rowsD_nil, rowsD_set, rowsD_take, rowsD_drop, rowsD_replicate] at e
  refine xCall_of [] e ?_
  obtain rfl := Option.some.inj h
  exact fin
  refine wgo ?_
  repeat refine cj ?_
  refine kIf2 h (fun hb h => ?_) (fun hb h => ?_)
  refine wgo ?_
  repeat refine cj ?_
  refine kIf2 h (fun hb h => ?_) (fun hb h => ?_)
  obtain rfl := Option.some.inj h
  exact fin
  refine wgo ?_
  repeat refine cj ?_
  refine kIf2 h (fun hb h => ?_) (fun hb h => ?_)
  refine wgo ?_
  repeat refine cj ?_
  obtain ⟨y34_3, hy34_3, h⟩ := bd h
  have e := novationseat_Deck_N.spec hy34_3
  try simp only [go_sem, List.map_set, rowsD_append, rowsD_cons, rowsD_nil, rowsD_set, rowsD_take, rowsD_drop, rowsD_replicate] at e
  refine xCall_of [] e ?_
  refine wgo ?_
  repeat refine cj ?_
  obtain ⟨y34_6, hy34_6, h⟩ := bd h
  have e := novationseat_Deck_N.spec hy34_6
  try simp only [go_sem, List.map_set, rowsD_append, rowsD_cons, rowsD_nil, rowsD_set, rowsD_take, rowsD_drop, rowsD_replicate] at e
  refine xCall_of [] e ?_
  obtain ⟨⟨hg34_11_0, hg34_11_1⟩, h⟩ := gd h
  obtain rfl := Option.some.inj h
  exact fin
  refine wgo ?_
  repeat refine cj ?_
  refine kIf2 h (fun hb h => ?_) (fun hb h => ?_)
  refine wgo ?_
  repeat refine cj ?_
  obtain ⟨y36_3, hy36_3, h⟩ := bd h
  have e := novationseat_Deck_N.spec hy36_3
  try simp only [go_sem, List.map_set, rowsD_append, rowsD_cons, rowsD_nil, rowsD_set, rowsD_take, rowsD_drop, rowsD_replicate] at e
  refine xCall_of [] e ?_
  refine wgo ?_
  repeat refine cj ?_
  obtain ⟨y36_6, hy36_6, h⟩ := bd h
  have e := novationseat_Deck_N.spec hy36_6
  try simp only [go_sem, List.map_set, rowsD_append, rowsD_cons, rowsD_nil, rowsD_set, rowsD_take, rowsD_drop, rowsD_replicate] at e
  refine xCall_of [] e ?_
  obtain rfl := Option.some.inj h
  exact fin
  refine wgo ?_
  repeat refine cj ?_
  obtain ⟨y37_2, hy37_2, h⟩ := bd h
  have e := novationseat_Deck_order.spec hy37_2
  try simp only [go_sem, List.map_set, rowsD_append, rowsD_cons, rowsD_nil, rowsD_set, rowsD_take, rowsD_drop, rowsD_replicate] at e
  refine xCall_of [] e ?_
  obtain rfl := Option.some.inj h
  exact fin
  refine wgo ?_
  repeat refine cj ?_
  refine kIf2 h (fun hb h => ?_) (fun hb h => ?_)
  refine wgo ?_
  repeat refine cj ?_
  refine kIf2 h (fun hb h => ?_) (fun hb h => ?_)
  obtain rfl := Option.some.inj h
  exact fin
  refine wgo ?_
  repeat refine cj ?_
  refine kIf2 h (fun hb h => ?_) (fun hb h => ?_)
  refine wgo ?_
  repeat refine cj ?_
  obtain ⟨y34_3, hy34_3, h⟩ := bd h
  have e := novationseat_Deck_N.spec hy34_3
  try simp only [go_sem, List.map_set, rowsD_append, rowsD_cons, rowsD_nil, rowsD_set, rowsD_take, rowsD_drop, rowsD_replicate] at e
  refine xCall_of [] e ?_
  refine wgo ?_
  repeat refine cj ?_
  obtain ⟨y34_6, hy34_6, h⟩ := bd h
  have e := novationseat_Deck_N.spec hy34_6
  try simp only [go_sem, List.map_set, rowsD_append, rowsD_cons, rowsD_nil, rowsD_set, rowsD_take, rowsD_drop, rowsD_replicate] at e
  refine xCall_of [] e ?_
  obtain ⟨⟨hg34_11_0, hg34_11_1⟩, h⟩ := gd h
  obtain rfl := Option.some.inj h
  exact fin
  refine wgo ?_
  repeat refine cj ?_
  refine kIf2 h (fun hb h => ?_) (fun hb h => ?_)
  refine wgo ?_
  repeat refine cj ?_
  obtain ⟨y36_3, hy36_3, h⟩ := bd h
  have e := novationseat_Deck_N.spec hy36_3
  try simp only [go_sem, List.map_set, rowsD_append, rowsD_cons, rowsD_nil, rowsD_set, rowsD_take, rowsD_drop, rowsD_replicate] at e
  refine xCall_of [] e ?_
  refine wgo ?_
  repeat refine cj ?_
  obtain ⟨y36_6, hy36_6, h⟩ := bd h
  have e := novationseat_Deck_N.spec hy36_6
  try simp only [go_sem, List.map_set, rowsD_append, rowsD_cons, rowsD_nil, rowsD_set, rowsD_take, rowsD_drop, rowsD_replicate] at e
  refine xCall_of [] e ?_
  obtain rfl := Option.some.inj h
  exact fin
  refine wgo ?_
  repeat refine cj ?_
  obtain ⟨y37_2, hy37_2, h⟩ := bd h
  have e := novationseat_Deck_order.spec hy37_2
  try simp only [go_sem, List.map_set, rowsD_append, rowsD_cons, rowsD_nil, rowsD_set, rowsD_take, rowsD_drop, rowsD_replicate] at e
  refine xCall_of [] e ?_
  obtain rfl := Option.some.inj h
  exact fin
  refine wgo ?_
  repeat refine cj ?_
  refine kIf2 h (fun hb h => ?_) (fun hb h => ?_)
  obtain rfl := Option.some.inj h
  exact fin
  refine wgo ?_
  repeat refine cj ?_
  refine kIf2 h (fun hb h => ?_) (fun hb h => ?_)
  refine wgo ?_
  repeat refine cj ?_
  obtain ⟨y34_3, hy34_3, h⟩ := bd h
  have e := novationseat_Deck_N.spec hy34_3
  try simp only [go_sem, List.map_set, rowsD_append, rowsD_cons, rowsD_nil, rowsD_set, rowsD_take, rowsD_drop, rowsD_replicate] at e
  refine xCall_of [] e ?_
  refine wgo ?_
  repeat refine cj ?_
  obtain ⟨y34_6, hy34_6, h⟩ := bd h
  have e := novationseat_Deck_N.spec hy34_6
  try simp only [go_sem, List.map_set, rowsD_append, rowsD_cons, rowsD_nil, rowsD_set, rowsD_take, rowsD_drop, rowsD_replicate] at e
  refine xCall_of [] e ?_
  obtain ⟨⟨hg34_11_0, hg34_11_1⟩, h⟩ := gd h
  obtain rfl := Option.some.inj h
  exact fin
  refine wgo ?_
  repeat refine cj ?_
  refine kIf2 h (fun hb h => ?_) (fun hb h => ?_)
  refine wgo ?_
  repeat refine cj ?_
  obtain ⟨y36_3, hy36_3, h⟩ := bd h
  have e := novationseat_Deck_N.spec hy36_3
  try simp only [go_sem, List.map_set, rowsD_append, rowsD_cons, rowsD_nil, rowsD_set, rowsD_take, rowsD_drop, rowsD_replicate] at e
  refine xCall_of [] e ?_
  refine wgo ?_
  repeat refine cj ?_
  obtain ⟨y36_6, hy36_6, h⟩ := bd h
  have e := novationseat_Deck_N.spec hy36_6
  try simp only [go_sem, List.map_set, rowsD_append, rowsD_cons, rowsD_nil, rowsD_set, rowsD_take, rowsD_drop, rowsD_replicate] at e
  refine xCall_of [] e ?_
  obtain rfl := Option.some.inj h
  exact fin
  refine wgo ?_
  repeat refine cj ?_
  obtain ⟨y37_2, hy37_2, h⟩ := bd h
  have e := novationseat_Deck_order.spec hy37_2
  try simp only [go_sem, List.map_set, rowsD_append, rowsD_cons, rowsD_nil, rowsD_set, rowsD_take, rowsD_drop, rowsD_replicate] at e
  refine xCall_of [] e ?_
  obtain rfl := Option.some.inj h
  exact fin
  refine wgo ?_
  repeat refine cj ?_
  refine kIf2 h (fun hb h => ?_) (fun hb h => ?_)
  refine wgo ?_
  repeat refine cj ?_
  refine kIf2 h (fun hb h => ?_) (fun hb h => ?_)
  obtain rfl := Option.some.inj h
  exact fin
  refine wgo ?_
  repeat refine cj ?_
  refine kIf2 h (fun hb h => ?_) (fun hb h => ?_)
  refine wgo ?_
  repeat refine cj ?_
  obtain ⟨y10_4, hy10_4, h⟩ := bd h
  have e := novationseat_Deck_N.spec hy10_4
  try simp only [go_sem, List.map_set, rowsD_append, rowsD_cons, rowsD_nil, rowsD_set, rowsD_take, rowsD_drop, rowsD_replicate] at e
  refine xCall_of [] e ?_
  obtain rfl := Option.some.inj h
  exact fin
  refine wgo ?_
  repeat refine cj ?_
  refine kIf2 h (fun hb h => ?_) (fun hb h => ?_)
  refine wgo ?_
  repeat refine cj ?_
  refine kIf2 h (fun hb h => ?_) (fun hb h => ?_)
  refine wgo ?_
  repeat refine cj ?_
  obtain ⟨y13_3, hy13_3, h⟩ := bd h
  have e := novationseat_Deck_Some.spec hy13_3
  try simp only [go_sem, List.map_set, rowsD_append, rowsD_cons, rowsD_nil, rowsD_set, rowsD_take, rowsD_drop, rowsD_replicate] at e
  refine xCall_of [] e ?_
  obtain rfl := Option.some.inj h
  exact fin
  refine wgo ?_
  repeat refine cj ?_
  refine kIf2 h (fun hb h => ?_) (fun hb h => ?_)
  refine wgo ?_
  repeat refine cj ?_
  refine kIf2 h (fun hb h => ?_) (fun hb h => ?_)
  refine wgo ?_
  repeat refine cj ?_
  obtain ⟨y16_3, hy16_3, h⟩ := bd h
  have e := novationseat_Deck_Some.spec hy16_3
  try simp only [go_sem, List.map_set, rowsD_append, rowsD_cons, rowsD_nil, rowsD_set, rowsD_take, rowsD_drop, rowsD_replicate] at e
  refine xCall_of [] e ?_
  obtain rfl := Option.some.inj h
  exact fin
  refine wgo ?_
  repeat refine cj ?_
  refine kIf2 h (fun hb h => ?_) (fun hb h => ?_)
  refine wgo ?_
  repeat refine cj ?_
  obtain ⟨y18_3, hy18_3, h⟩ := bd h
  have e := novationseat_Deck_Some.spec hy18_3
  try simp only [go_sem, List.map_set, rowsD_append, rowsD_cons, rowsD_nil, rowsD_set, rowsD_take, rowsD_drop, rowsD_replicate] at e
  refine xCall_of [] e ?_
  obtain rfl := Option.some.inj h
  exact fin
  refine wgo ?_
  repeat refine cj ?_
  refine kIf2 h (fun hb h => ?_) (fun hb h => ?_)
  refine wgo ?_
  repeat refine cj ?_
  obtain ⟨y20_3, hy20_3, h⟩ := bd h
  have e := novationseat_Deck_N.spec hy20_3
  try simp only [go_sem, List.map_set, rowsD_append, rowsD_cons, rowsD_nil, rowsD_set, rowsD_take, rowsD_drop, rowsD_replicate] at e
  refine xCall_of [] e ?_
  obtain rfl := Option.some.inj h
  exact fin
  refine wgo ?_
  repeat refine cj ?_
  refine kIf2 h (fun hb h => ?_) (fun hb h => ?_)
  refine wgo ?_
  repeat refine cj ?_
  obtain ⟨y22_3, hy22_3, h⟩ := bd h
  have e := novationseat_Deck_mark.spec hy22_3
  try simp only [go_sem, List.map_set, rowsD_append, rowsD_cons, rowsD_nil, rowsD_set, rowsD_take, rowsD_drop, rowsD_replicate] at e
  refine xCall_of [] e ?_
  obtain rfl := Option.some.inj h
  exact fin
  refine wgo ?_
  repeat refine cj ?_
  refine kIf2 h (fun hb h => ?_) (fun hb h => ?_)
  refine wgo ?_
  repeat refine cj ?_
  obtain ⟨y24_2, hy24_2, h⟩ := bd h
  have e := novationseat_Deck_N.spec hy24_2
  try simp only [go_sem, List.map_set, rowsD_append, rowsD_cons, rowsD_nil, rowsD_set, rowsD_take, rowsD_drop, rowsD_replicate] at e
  refine xCall_of [] e ?_
  obtain rfl := Option.some.inj h
  exact fin
  refine wgo ?_
  repeat refine cj ?_
  refine kIf2 h (fun hb h => ?_) (fun hb h => ?_)
  obtain rfl := Option.some.inj h
  exact fin
  refine wgo ?_
  repeat refine cj ?_
  refine kIf2 h (fun hb h => ?_) (fun hb h => ?_)
  refine wgo ?_
  repeat refine cj ?_
  refine kIf2 h (fun hb h => ?_) (fun hb h => ?_)
  obtain rfl := Option.some.inj h
  exact fin
  refine wgo ?_
  repeat refine cj ?_
  refine kIf2 h (fun hb h => ?_) (fun hb h => ?_)
  refine wgo ?_
  repeat refine cj ?_
  obtain ⟨y34_3, hy34_3, h⟩ := bd h
  have e := novationseat_Deck_N.spec hy34_3
  try simp only [go_sem, List.map_set, rowsD_append, rowsD_cons, rowsD_nil, rowsD_set, rowsD_take, rowsD_drop, rowsD_replicate] at e
  refine xCall_of [] e ?_
  refine wgo ?_
  repeat refine cj ?_
  obtain ⟨y34_6, hy34_6, h⟩ := bd h
  have e := novationseat_Deck_N.spec hy34_6
  try simp only [go_sem, List.map_set, rowsD_append, rowsD_cons, rowsD_nil, rowsD_set, rowsD_take, rowsD_drop, rowsD_replicate] at e
  refine xCall_of [] e ?_
  obtain ⟨⟨hg34_11_0, hg34_11_1⟩, h⟩ := gd h
  obtain rfl := Option.some.inj h
  exact fin
  refine wgo ?_
  repeat refine cj ?_
  refine kIf2 h (fun hb h => ?_) (fun hb h => ?_)
  refine wgo ?_
  repeat refine cj ?_
  obtain ⟨y36_3, hy36_3, h⟩ := bd h
  have e := novationseat_Deck_N.spec hy36_3
  try simp only [go_sem, List.map_set, rowsD_append, rowsD_cons, rowsD_nil, rowsD_set, rowsD_take, rowsD_drop, rowsD_replicate] at e
  refine xCall_of [] e ?_
  refine wgo ?_
  repeat refine cj ?_
  obtain ⟨y36_6, hy36_6, h⟩ := bd h
  have e := novationseat_Deck_N.spec hy36_6
  try simp only [go_sem, List.map_set, rowsD_append, rowsD_cons, rowsD_nil, rowsD_set, rowsD_take, rowsD_drop, rowsD_replicate] at e
  refine xCall_of [] e ?_
  obtain rfl := Option.some.inj h
  exact fin
  refine wgo ?_
  repeat refine cj ?_
  obtain ⟨y37_2, hy37_2, h⟩ := bd h
  have e := novationseat_Deck_order.spec hy37_2
  try simp only [go_sem, List.map_set, rowsD_append, rowsD_cons, rowsD_nil, rowsD_set, rowsD_take, rowsD_drop, rowsD_replicate] at e
  refine xCall_of [] e ?_
  obtain rfl := Option.some.inj h
  exact fin
  refine wgo ?_
  repeat refine cj ?_
  refine kIf2 h (fun hb h => ?_) (fun hb h => ?_)
  refine wgo ?_
  repeat refine cj ?_
  refine kIf2 h (fun hb h => ?_) (fun hb h => ?_)
  obtain rfl := Option.some.inj h
  exact fin
  refine wgo ?_
  repeat refine cj ?_
  refine kIf2 h (fun hb h => ?_) (fun hb h => ?_)
  refine wgo ?_
  repeat refine cj ?_
  obtain ⟨y34_3, hy34_3, h⟩ := bd h
  have e := novationseat_Deck_N.spec hy34_3
  try simp only [go_sem, List.map_set, rowsD_append, rowsD_cons, rowsD_nil, rowsD_set, rowsD_take, rowsD_drop, rowsD_replicate] at e
  refine xCall_of [] e ?_
  refine wgo ?_
  repeat refine cj ?_
  obtain ⟨y34_6, hy34_6, h⟩ := bd h
  have e := novationseat_Deck_N.spec hy34_6
  try simp only [go_sem, List.map_set, rowsD_append, rowsD_cons, rowsD_nil, rowsD_set, rowsD_take, rowsD_drop, rowsD_replicate] at e
  refine xCall_of [] e ?_
  obtain ⟨⟨hg34_11_0, hg34_11_1⟩, h⟩ := gd h
  obtain rfl := Option.some.inj h
  exact fin
  refine wgo ?_
  repeat refine cj ?_
  refine kIf2 h (fun hb h => ?_) (fun hb h => ?_)
  refine wgo ?_
  repeat refine cj ?_
  obtain ⟨y36_3, hy36_3, h⟩ := bd h
  have e := novationseat_Deck_N.spec hy36_3
  try simp only [go_sem, List.map_set, rowsD_append, rowsD_cons, rowsD_nil, rowsD_set, rowsD_take, rowsD_drop, rowsD_replicate] at e
  refine xCall_of [] e ?_
  refine wgo ?_
  repeat refine cj ?_
  obtain ⟨y36_6, hy36_6, h⟩ := bd h
  have e := novationseat_Deck_N.spec hy36_6
  try simp only [go_sem, List.map_set, rowsD_append, rowsD_cons, rowsD_nil, rowsD_set, rowsD_take, rowsD_drop, rowsD_replicate] at e
  refine xCall_of [] e ?_
  obtain rfl := Option.some.inj h
  exact fin
  refine wgo ?_
  repeat refine cj ?_
  obtain ⟨y37_2, hy37_2, h⟩ := bd h
  have e := novationseat_Deck_order.spec hy37_2
  try simp only [go_sem, List.map_set, rowsD_append, rowsD_cons, rowsD_nil, rowsD_set, rowsD_take, rowsD_drop, rowsD_replicate] at e
  refine xCall_of [] e ?_
  obtain rfl := Option.some.inj h
  exact fin
  refine wgo ?_
  repeat refine cj ?_
  refine kIf2 h (fun hb h => ?_) (fun hb h => ?_)
  refine wgo ?_
  repeat refine cj ?_
  refine kIf2 h (fun hb h => ?_) (fun hb h => ?_)
  obtain rfl := Option.some.inj h
  exact fin
  refine wgo ?_
  repeat refine cj ?_
  refine kIf2 h (fun hb h => ?_) (fun hb h => ?_)
  refine wgo ?_
  repeat refine cj ?_
  obtain ⟨y34_3, hy34_3, h⟩ := bd h
  have e := novationseat_Deck_N.spec hy34_3
  try simp only [go_sem, List.map_set, rowsD_append, rowsD_cons, rowsD_nil, rowsD_set, rowsD_take, rowsD_drop, rowsD_replicate] at e
  refine xCall_of [] e ?_
  refine wgo ?_
  repeat refine cj ?_
  obtain ⟨y34_6, hy34_6, h⟩ := bd h
  have e := novationseat_Deck_N.spec hy34_6
  try simp only [go_sem, List.map_set, rowsD_append, rowsD_cons, rowsD_nil, rowsD_set, rowsD_take, rowsD_drop, rowsD_replicate] at e
  refine xCall_of [] e ?_
  obtain ⟨⟨hg34_11_0, hg34_11_1⟩, h⟩ := gd h
  obtain rfl := Option.some.inj h
  exact fin
  refine wgo ?_
  repeat refine cj ?_
  refine kIf2 h (fun hb h => ?_) (fun hb h => ?_)
  refine wgo ?_
  repeat refine cj ?_
  obtain ⟨y36_3, hy36_3, h⟩ := bd h
  have e := novationseat_Deck_N.spec hy36_3
  try simp only [go_sem, List.map_set, rowsD_append, rowsD_cons, rowsD_nil, rowsD_set, rowsD_take, rowsD_drop, rowsD_replicate] at e
  refine xCall_of [] e ?_
  refine wgo ?_
  repeat refine cj ?_
  obtain ⟨y36_6, hy36_6, h⟩ := bd h
  have e := novationseat_Deck_N.spec hy36_6
  try simp only [go_sem, List.map_set, rowsD_append, rowsD_cons, rowsD_nil, rowsD_set, rowsD_take, rowsD_drop, rowsD_replicate] at e
  refine xCall_of [] e ?_
  obtain rfl := Option.some.inj h
  exact fin
  refine wgo ?_
  repeat refine cj ?_
  obtain ⟨y37_2, hy37_2, h⟩ := bd h
  have e := novationseat_Deck_order.spec hy37_2
  try simp only [go_sem, List.map_set, rowsD_append, rowsD_cons, rowsD_nil, rowsD_set, rowsD_take, rowsD_drop, rowsD_replicate] at e
  refine xCall_of [] e ?_
  obtain rfl := Option.some.inj h
  exact fin
  refine wgo ?_
  repeat refine cj ?_
  refine kIf2 h (fun hb h => ?_) (fun hb h => ?_)
  refine wgo ?_
  repeat refine cj ?_
  refine kIf2 h (fun hb h => ?_) (fun hb h => ?_)
  obtain rfl := Option.some.inj h
  exact fin
  refine wgo ?_
  repeat refine cj ?_
  refine kIf2 h (fun hb h => ?_) (fun hb h => ?_)
  refine wgo ?_
  repeat refine cj ?_
  obtain ⟨y34_3, hy34_3, h⟩ := bd h
  have e := novationseat_Deck_N.spec hy34_3
  try simp only [go_sem, List.map_set, rowsD_append, rowsD_cons, rowsD_nil, rowsD_set, rowsD_take, rowsD_drop, rowsD_replicate] at e
  refine xCall_of [] e ?_
  refine wgo ?_
  repeat refine cj ?_
  obtain ⟨y34_6, hy34_6, h⟩ := bd h
  have e := novationseat_Deck_N.spec hy34_6
  try simp only [go_sem, List.map_set, rowsD_append, rowsD_cons, rowsD_nil, rowsD_set, rowsD_take, rowsD_drop, rowsD_replicate] at e
  refine xCall_of [] e ?_
  obtain ⟨⟨hg34_11_0, hg34_11_1⟩, h⟩ := gd h
  obtain rfl := Option.some.inj h
  exact fin
  refine wgo ?_
  repeat refine cj ?_
  refine kIf2 h (fun hb h => ?_) (fun hb h => ?_)
  refine wgo ?_
  repeat refine cj ?_
  obtain ⟨y36_3, hy36_3, h⟩ := bd h
  have e := novationseat_Deck_N.spec hy36_3
  try simp only [go_sem, List.map_set, rowsD_append, rowsD_cons, rowsD_nil, rowsD_set, rowsD_take, rowsD_drop, rowsD_replicate] at e
  refine xCall_of [] e ?_
  refine wgo ?_
  repeat refine cj ?_
  obtain ⟨y36_6, hy36_6, h⟩ := bd h
  have e := novationseat_Deck_N.spec hy36_6
  try simp only [go_sem, List.map_set, rowsD_append, rowsD_cons, rowsD_nil, rowsD_set, rowsD_take, rowsD_drop, rowsD_replicate] at e
  refine xCall_of [] e ?_
  obtain rfl := Option.some.inj h
  exact fin
  refine wgo ?_
  repeat refine cj ?_
  obtain ⟨y37_2, hy37_2, h⟩ := bd h
  have e := novationseat_Deck_order.spec hy37_2
  try simp only [go_sem, List.map_set, rowsD_append, rowsD_cons, rowsD_nil, rowsD_set, rowsD_take, rowsD_drop, rowsD_replicate] at e
  refine xCall_of [] e ?_
  obtain rfl := Option.some.inj h
  exact fin
  refine wgo ?_
  repeat refine cj ?_
  refine kIf2 h (fun hb h => ?_) (fun hb h => ?_)
  obtain rfl := Option.some.inj h
  exact fin
  refine wgo ?_
  repeat refine cj ?_
  refine kIf2 h (fun hb h => ?_) (fun hb h => ?_)
  refine wgo ?_
  repeat refine cj ?_
  obtain ⟨y34_3, hy34_3, h⟩ := bd h
  have e := novationseat_Deck_N.spec hy34_3
  try simp only [go_sem, List.map_set, rowsD_append, rowsD_cons, rowsD_nil, rowsD_set, rowsD_take, rowsD_drop, rowsD_replicate] at e
  refine xCall_of [] e ?_
  refine wgo ?_
  repeat refine cj ?_
  obtain ⟨y34_6, hy34_6, h⟩ := bd h
  have e := novationseat_Deck_N.spec hy34_6
  try simp only [go_sem, List.map_set, rowsD_append, rowsD_cons, rowsD_nil, rowsD_set, rowsD_take, rowsD_drop, rowsD_replicate] at e
  refine xCall_of [] e ?_
  obtain ⟨⟨hg34_11_0, hg34_11_1⟩, h⟩ := gd h
  obtain rfl := Option.some.inj h
  exact fin
  refine wgo ?_
  repeat refine cj ?_
  refine kIf2 h (fun hb h => ?_) (fun hb h => ?_)
  refine wgo ?_
  repeat refine cj ?_
  obtain ⟨y36_3, hy36_3, h⟩ := bd h
  have e := novationseat_Deck_N.spec hy36_3
  try simp only [go_sem, List.map_set, rowsD_append, rowsD_cons, rowsD_nil, rowsD_set, rowsD_take, rowsD_drop, rowsD_replicate] at e
  refine xCall_of [] e ?_
  refine wgo ?_
  repeat refine cj ?_
  obtain ⟨y36_6, hy36_6, h⟩ := bd h
  have e := novationseat_Deck_N.spec hy36_6
  try simp only [go_sem, List.map_set, rowsD_append, rowsD_cons, rowsD_nil, rowsD_set, rowsD_take, rowsD_drop, rowsD_replicate] at e
  refine xCall_of [] e ?_
  obtain rfl := Option.some.inj h
  exact fin
  refine wgo ?_
  repeat refine cj ?_
  obtain ⟨y37_2, hy37_2, h⟩ := bd h
  have e := novationseat_Deck_order.spec hy37_2
  try simp only [go_sem, List.map_set, rowsD_append, rowsD_cons, rowsD_nil, rowsD_set, rowsD_take, rowsD_drop, rowsD_replicate] at e
  refine xCall_of [] e ?_
  obtain rfl := Option.some.inj h
  exact fin
  refine wgo ?_
  repeat refine cj ?_
  refine kIf2 h (fun hb h => ?_) (fun hb h => ?_)
  refine wgo ?_
  repeat refine cj ?_
  obtain ⟨y16_3, hy16_3, h⟩ := bd h
  have e := novationseat_Deck_Some.spec hy16_3
  try simp only [go_sem, List.map_set, rowsD_append, rowsD_cons, rowsD_nil, rowsD_set, rowsD_take, rowsD_drop, rowsD_replicate] at e
  refine xCall_of [] e ?_
  obtain rfl := Option.some.inj h
  exact fin
  refine wgo ?_
  repeat refine cj ?_
  refine kIf2 h (fun hb h => ?_) (fun hb h => ?_)
  refine wgo ?_
  repeat refine cj ?_
  obtain ⟨y18_3, hy18_3, h⟩ := bd h
  have e := novationseat_Deck_Some.spec hy18_3
  try simp only [go_sem, List.map_set, rowsD_append, rowsD_cons, rowsD_nil, rowsD_set, rowsD_take, rowsD_drop, rowsD_replicate] at e
  refine xCall_of [] e ?_
  obtain rfl := Option.some.inj h
  exact fin
  refine wgo ?_
  repeat refine cj ?_
  refine kIf2 h (fun hb h => ?_) (fun hb h => ?_)
  refine wgo ?_
  repeat refine cj ?_
  obtain ⟨y20_3, hy20_3, h⟩ := bd h
  have e := novationseat_Deck_N.spec hy20_3
  try simp only [go_sem, List.map_set, rowsD_append, rowsD_cons, rowsD_nil, rowsD_set, rowsD_take, rowsD_drop, rowsD_replicate] at e
  refine xCall_of [] e ?_
  obtain rfl := Option.some.inj h
  exact fin
  refine wgo ?_
  repeat refine cj ?_
  refine kIf2 h (fun hb h => ?_) (fun hb h => ?_)
  refine wgo ?_
  repeat refine cj ?_
  obtain ⟨y22_3, hy22_3, h⟩ := bd h
  have e := novationseat_Deck_mark.spec hy22_3
  try simp only [go_sem, List.map_set, rowsD_append, rowsD_cons, rowsD_nil, rowsD_set, rowsD_take, rowsD_drop, rowsD_replicate] at e
  refine xCall_of [] e ?_
  obtain rfl := Option.some.inj h
  exact fin
  refine wgo ?_
  repeat refine cj ?_
  refine kIf2 h (fun hb h => ?_) (fun hb h => ?_)
  refine wgo ?_
  repeat refine cj ?_
  obtain ⟨y24_2, hy24_2, h⟩ := bd h
  have e := novationseat_Deck_N.spec hy24_2
  try simp only [go_sem, List.map_set, rowsD_append, rowsD_cons, rowsD_nil, rowsD_set, rowsD_take, rowsD_drop, rowsD_replicate] at e
  refine xCall_of [] e ?_
  obtain rfl := Option.some.inj h
  exact fin
  refine wgo ?_
  repeat refine cj ?_
  refine kIf2 h (fun hb h => ?_) (fun hb h => ?_)
  obtain rfl := Option.some.inj h
  exact fin
  refine wgo ?_
  repeat refine cj ?_
  refine kIf2 h (fun hb h => ?_) (fun hb h => ?_)
  refine wgo ?_
  repeat refine cj ?_
  refine kIf2 h (fun hb h => ?_) (fun hb h => ?_)
  obtain rfl := Option.some.inj h
  exact fin
  refine wgo ?_
  repeat refine cj ?_
  refine kIf2 h (fun hb h => ?_) (fun hb h => ?_)
  refine wgo ?_
  repeat refine cj ?_
  obtain ⟨y34_3, hy34_3, h⟩ := bd h
  have e := novationseat_Deck_N.spec hy34_3
  try simp only [go_sem, List.map_set, rowsD_append, rowsD_cons, rowsD_nil, rowsD_set, rowsD_take, rowsD_drop, rowsD_replicate] at e
  refine xCall_of [] e ?_
  refine wgo ?_
  repeat refine cj ?_
  obtain ⟨y34_6, hy34_6, h⟩ := bd h
  have e := novationseat_Deck_N.spec hy34_6
  try simp only [go_sem, List.map_set, rowsD_append, rowsD_cons, rowsD_nil, rowsD_set, rowsD_take, rowsD_drop, rowsD_replicate] at e
  refine xCall_of [] e ?_
  obtain ⟨⟨hg34_11_0, hg34_11_1⟩, h⟩ := gd h
  obtain rfl := Option.some.inj h
  exact fin
  refine wgo ?_
  repeat refine cj ?_
  refine kIf2 h (fun hb h => ?_) (fun hb h => ?_)
  refine wgo ?_
  repeat refine cj ?_
  obtain ⟨y36_3, hy36_3, h⟩ := bd h
  have e := novationseat_Deck_N.spec hy36_3
  try simp only [go_sem, List.map_set, rowsD_append, rowsD_cons, rowsD_nil, rowsD_set, rowsD_take, rowsD_drop, rowsD_replicate] at e
  refine xCall_of [] e ?_
  refine wgo ?_
  repeat refine cj ?_
  obtain ⟨y36_6, hy36_6, h⟩ := bd h
  have e := novationseat_Deck_N.spec hy36_6
  try simp only [go_sem, List.map_set, rowsD_append, rowsD_cons, rowsD_nil, rowsD_set, rowsD_take, rowsD_drop, rowsD_replicate] at e
  refine xCall_of [] e ?_
  obtain rfl := Option.some.inj h
  exact fin
  refine wgo ?_
  repeat refine cj ?_
  obtain ⟨y37_2, hy37_2, h⟩ := bd h
  have e := novationseat_Deck_order.spec hy37_2
  try simp only [go_sem, List.map_set, rowsD_append, rowsD_cons, rowsD_nil, rowsD_set, rowsD_take, rowsD_drop, rowsD_replicate] at e
  refine xCall_of [] e ?_
  obtain rfl := Option.some.inj h
  exact fin
  refine wgo ?_
  repeat refine cj ?_
  refine kIf2 h (fun hb h => ?_) (fun hb h => ?_)
  refine wgo ?_
  repeat refine cj ?_
  refine kIf2 h (fun hb h => ?_) (fun hb h => ?_)
  obtain rfl := Option.some.inj h
  exact fin
  refine wgo ?_
  repeat refine cj ?_
  refine kIf2 h (fun hb h => ?_) (fun hb h => ?_)
  refine wgo ?_
  repeat refine cj ?_
  obtain ⟨y34_3, hy34_3, h⟩ := bd h
  have e := novationseat_Deck_N.spec hy34_3
  try simp only [go_sem, List.map_set, rowsD_append, rowsD_cons, rowsD_nil, rowsD_set, rowsD_take, rowsD_drop, rowsD_replicate] at e
  refine xCall_of [] e ?_
  refine wgo ?_
  repeat refine cj ?_
  obtain ⟨y34_6, hy34_6, h⟩ := bd h
  have e := novationseat_Deck_N.spec hy34_6
  try simp only [go_sem, List.map_set, rowsD_append, rowsD_cons, rowsD_nil, rowsD_set, rowsD_take, rowsD_drop, rowsD_replicate] at e
  refine xCall_of [] e ?_
  obtain ⟨⟨hg34_11_0, hg34_11_1⟩, h⟩ := gd h
  obtain rfl := Option.some.inj h
  exact fin
  refine wgo ?_
  repeat refine cj ?_
  refine kIf2 h (fun hb h => ?_) (fun hb h => ?_)
  refine wgo ?_
  repeat refine cj ?_
  obtain ⟨y36_3, hy36_3, h⟩ := bd h
  have e := novationseat_Deck_N.spec hy36_3
  try simp only [go_sem, List.map_set, rowsD_append, rowsD_cons, rowsD_nil, rowsD_set, rowsD_take, rowsD_drop, rowsD_replicate] at e
  refine xCall_of [] e ?_
  refine wgo ?_
  repeat refine cj ?_
  obtain ⟨y36_6, hy36_6, h⟩ := bd h
  have e := novationseat_Deck_N.spec hy36_6
  try simp only [go_sem, List.map_set, rowsD_append, rowsD_cons, rowsD_nil, rowsD_set, rowsD_take, rowsD_drop, rowsD_replicate] at e
  refine xCall_of [] e ?_
  obtain rfl := Option.some.inj h
  exact fin
  refine wgo ?_
  repeat refine cj ?_
  obtain ⟨y37_2, hy37_2, h⟩ := bd h
  have e := novationseat_Deck_order.spec hy37_2
  try simp only [go_sem, List.map_set, rowsD_append, rowsD_cons, rowsD_nil, rowsD_set, rowsD_take, rowsD_drop, rowsD_replicate] at e
  refine xCall_of [] e ?_
  obtain rfl := Option.some.inj h
  exact fin
  refine wgo ?_
  repeat refine cj ?_
  refine kIf2 h (fun hb h => ?_) (fun hb h => ?_)
  refine wgo ?_
  repeat refine cj ?_
  refine kIf2 h (fun hb h => ?_) (fun hb h => ?_)
  obtain rfl := Option.some.inj h
  exact fin
  refine wgo ?_
  repeat refine cj ?_
  refine kIf2 h (fun hb h => ?_) (fun hb h => ?_)
  refine wgo ?_
  repeat refine cj ?_
  obtain ⟨y34_3, hy34_3, h⟩ := bd h
  have e := novationseat_Deck_N.spec hy34_3
  try simp only [go_sem, List.map_set, rowsD_append, rowsD_cons, rowsD_nil, rowsD_set, rowsD_take, rowsD_drop, rowsD_replicate] at e
  refine xCall_of [] e ?_
  refine wgo ?_
  repeat refine cj ?_
  obtain ⟨y34_6, hy34_6, h⟩ := bd h
  have e := novationseat_Deck_N.spec hy34_6
  try simp only [go_sem, List.map_set, rowsD_append, rowsD_cons, rowsD_nil, rowsD_set, rowsD_take, rowsD_drop, rowsD_replicate] at e
  refine xCall_of [] e ?_
  obtain ⟨⟨hg34_11_0, hg34_11_1⟩, h⟩ := gd h
  obtain rfl := Option.some.inj h
  exact fin
  refine wgo ?_
  repeat refine cj ?_
  refine kIf2 h (fun hb h => ?_) (fun hb h => ?_)
  refine wgo ?_
  repeat refine cj ?_
  obtain ⟨y36_3, hy36_3, h⟩ := bd h
  have e := novationseat_Deck_N.spec hy36_3
  try simp only [go_sem, List.map_set, rowsD_append, rowsD_cons, rowsD_nil, rowsD_set, rowsD_take, rowsD_drop, rowsD_replicate] at e
  refine xCall_of [] e ?_
  refine wgo ?_
  repeat refine cj ?_
  obtain ⟨y36_6, hy36_6, h⟩ := bd h
  have e := novationseat_Deck_N.spec hy36_6
  try simp only [go_sem, List.map_set, rowsD_append, rowsD_cons, rowsD_nil, rowsD_set, rowsD_take, rowsD_drop, rowsD_replicate] at e
  refine xCall_of [] e ?_
  obtain rfl := Option.some.inj h
  exact fin
  refine wgo ?_
  repeat refine cj ?_
  obtain ⟨y37_2, hy37_2, h⟩ := bd h
  have e := novationseat_Deck_order.spec hy37_2
  try simp only [go_sem, List.map_set, rowsD_append, rowsD_cons, rowsD_nil, rowsD_set, rowsD_take, rowsD_drop, rowsD_replicate] at e
  refine xCall_of [] e ?_
  obtain rfl := Option.some.inj h
  exact fin
  refine wgo ?_
  repeat refine cj ?_
  refine kIf2 h (fun hb h => ?_) (fun hb h => ?_)
  refine wgo ?_
  repeat refine cj ?_
  refine kIf2 h (fun hb h => ?_) (fun hb h => ?_)
  obtain rfl := Option.some.inj h
  exact fin
  refine wgo ?_
  repeat refine cj ?_
  refine kIf2 h (fun hb h => ?_) (fun hb h => ?_)
  refine wgo ?_
  repeat refine cj ?_
  obtain ⟨y34_3, hy34_3, h⟩ := bd h
  have e := novationseat_Deck_N.spec hy34_3
  try simp only [go_sem, List.map_set, rowsD_append, rowsD_cons, rowsD_nil, rowsD_set, rowsD_take, rowsD_drop, rowsD_replicate] at e
  refine xCall_of [] e ?_
  refine wgo ?_
  repeat refine cj ?_
  obtain ⟨y34_6, hy34_6, h⟩ := bd h
  have e := novationseat_Deck_N.spec hy34_6
  try simp only [go_sem, List.map_set, rowsD_append, rowsD_cons, rowsD_nil, rowsD_set, rowsD_take, rowsD_drop, rowsD_replicate] at e
  refine xCall_of [] e ?_
  obtain ⟨⟨hg34_11_0, hg34_11_1⟩, h⟩ := gd h
  obtain rfl := Option.some.inj h
  exact fin
  refine wgo ?_
  repeat refine cj ?_
  refine kIf2 h (fun hb h => ?_) (fun hb h => ?_)
  refine wgo ?_
  repeat refine cj ?_
  obtain ⟨y36_3, hy36_3, h⟩ := bd h
  have e := novationseat_Deck_N.spec hy36_3
  try simp only [go_sem, List.map_set, rowsD_append, rowsD_cons, rowsD_nil, rowsD_set, rowsD_take, rowsD_drop, rowsD_replicate] at e
  refine xCall_of [] e ?_
  refine wgo ?_
  repeat refine cj ?_
  obtain ⟨y36_6, hy36_6, h⟩ := bd h
  have e := novationseat_Deck_N.spec hy36_6
  try simp only [go_sem, List.map_set, rowsD_append, rowsD_cons, rowsD_nil, rowsD_set, rowsD_take, rowsD_drop, rowsD_replicate] at e
  refine xCall_of [] e ?_
  obtain rfl := Option.some.inj h
  exact fin
  refine wgo ?_
  repeat refine cj ?_
  obtain ⟨y37_2, hy37_2, h⟩ := bd h
  have e := novationseat_Deck_order.spec hy37_2
  try simp only [go_sem, List.map_set, rowsD_append, rowsD_cons, rowsD_nil, rowsD_set, rowsD_take, rowsD_drop, rowsD_replicate] at e
  refine xCall_of [] e ?_
  obtain rfl := Option.some.inj h
  exact fin
  refine wgo ?_
  repeat refine cj ?_
  refine kIf2 h (fun hb h => ?_) (fun hb h => ?_)
  obtain rfl := Option.some.inj h
  exact fin
  refine wgo ?_
  repeat refine cj ?_
  refine kIf2 h (fun hb h => ?_) (fun hb h => ?_)
  refine wgo ?_
  repeat refine cj ?_
  obtain ⟨y34_3, hy34_3, h⟩ := bd h
  have e := novationseat_Deck_N.spec hy34_3
  try simp only [go_sem, List.map_set, rowsD_append, rowsD_cons, rowsD_nil, rowsD_set, rowsD_take, rowsD_drop, rowsD_replicate] at e
  refine xCall_of [] e ?_
  refine wgo ?_
  repeat refine cj ?_
  obtain ⟨y34_6, hy34_6, h⟩ := bd h
  have e := novationseat_Deck_N.spec hy34_6
  try simp only [go_sem, List.map_set, rowsD_append, rowsD_cons, rowsD_nil, rowsD_set, rowsD_take, rowsD_drop, rowsD_replicate] at e
  refine xCall_of [] e ?_
  obtain ⟨⟨hg34_11_0, hg34_11_1⟩, h⟩ := gd h
  obtain rfl := Option.some.inj h
  exact fin
  refine wgo ?_
  repeat refine cj ?_
  refine kIf2 h (fun hb h => ?_) (fun hb h => ?_)
  refine wgo ?_
  repeat refine cj ?_
  obtain ⟨y36_3, hy36_3, h⟩ := bd h
  have e := novationseat_Deck_N.spec hy36_3
  try simp only [go_sem, List.map_set, rowsD_append, rowsD_cons, rowsD_nil, rowsD_set, rowsD_take, rowsD_drop, rowsD_replicate] at e
  refine xCall_of [] e ?_
  refine wgo ?_
  repeat refine cj ?_
  obtain ⟨y36_6, hy36_6, h⟩ := bd h
  have e := novationseat_Deck_N.spec hy36_6
  try simp only [go_sem, List.map_set, rowsD_append, rowsD_cons, rowsD_nil, rowsD_set, rowsD_take, rowsD_drop, rowsD_replicate] at e
  refine xCall_of [] e ?_
  obtain rfl := Option.some.inj h
  exact fin
  refine wgo ?_
  repeat refine cj ?_
  obtain ⟨y37_2, hy37_2, h⟩ := bd h
  have e := novationseat_Deck_order.spec hy37_2
  try simp only [go_sem, List.map_set, rowsD_append, rowsD_cons, rowsD_nil, rowsD_set, rowsD_take, rowsD_drop, rowsD_replicate] at e
  refine xCall_of [] e ?_
  obtain rfl := Option.some.inj h
  exact fin
  refine wgo ?_
  repeat refine cj ?_
  refine kIf2 h (fun hb h => ?_) (fun hb h => ?_)
  refine wgo ?_
  repeat refine cj ?_
  obtain ⟨y13_3, hy13_3, h⟩ := bd h
  have e := novationseat_Deck_Some.spec hy13_3
  try simp only [go_sem, List.map_set, rowsD_append, rowsD_cons, rowsD_nil, rowsD_set, rowsD_take, rowsD_drop, rowsD_replicate] at e
  refine xCall_of [] e ?_
  obtain rfl := Option.some.inj h
  exact fin
  refine wgo ?_
  repeat refine cj ?_
  refine kIf2 h (fun hb h => ?_) (fun hb h => ?_)
  refine wgo ?_
  repeat refine cj ?_
  refine kIf2 h (fun hb h => ?_) (fun hb h => ?_)
  refine wgo ?_
  repeat refine cj ?_
  obtain ⟨y16_3, hy16_3, h⟩ := bd h
  have e := novationseat_Deck_Some.spec hy16_3
  try simp only [go_sem, List.map_set, rowsD_append, rowsD_cons, rowsD_nil, rowsD_set, rowsD_take, rowsD_drop, rowsD_replicate] at e
  refine xCall_of [] e ?_
  obtain rfl := Option.some.inj h
  exact fin
  refine wgo ?_
  repeat refine cj ?_
  refine kIf2 h (fun hb h => ?_) (fun hb h => ?_)
  refine wgo ?_
  repeat refine cj ?_
  obtain ⟨y18_3, hy18_3, h⟩ := bd h
  have e := novationseat_Deck_Some.spec hy18_3
  try simp only [go_sem, List.map_set, rowsD_append, rowsD_cons, rowsD_nil, rowsD_set, rowsD_take, rowsD_drop, rowsD_replicate] at e
  refine xCall_of [] e ?_
  obtain rfl := Option.some.inj h
  exact fin
  refine wgo ?_
  repeat refine cj ?_
  refine kIf2 h (fun hb h => ?_) (fun hb h => ?_)
  refine wgo ?_
  repeat refine cj ?_
  obtain ⟨y20_3, hy20_3, h⟩ := bd h
  have e := novationseat_Deck_N.spec hy20_3
  try simp only [go_sem, List.map_set, rowsD_append, rowsD_cons, rowsD_nil, rowsD_set, rowsD_take, rowsD_drop, rowsD_replicate] at e
  refine xCall_of [] e ?_
  obtain rfl := Option.some.inj h
  exact fin
  refine wgo ?_
  repeat refine cj ?_
  refine kIf2 h (fun hb h => ?_) (fun hb h => ?_)
  refine wgo ?_
  repeat refine cj ?_
  obtain ⟨y22_3, hy22_3, h⟩ := bd h
  have e := novationseat_Deck_mark.spec hy22_3
  try simp only [go_sem, List.map_set, rowsD_append, rowsD_cons, rowsD_nil, rowsD_set, rowsD_take, rowsD_drop, rowsD_replicate] at e
  refine xCall_of [] e ?_
  obtain rfl := Option.some.inj h
  exact fin
  refine wgo ?_
  repeat refine cj ?_
  refine kIf2 h (fun hb h => ?_) (fun hb h => ?_)
  refine wgo ?_
  repeat refine cj ?_
  obtain ⟨y24_2, hy24_2, h⟩ := bd h
  have e := novationseat_Deck_N.spec hy24_2
  try simp only [go_sem, List.map_set, rowsD_append, rowsD_cons, rowsD_nil, rowsD_set, rowsD_take, rowsD_drop, rowsD_replicate] at e
  refine xCall_of [] e ?_
  obtain rfl := Option.some.inj h
  exact fin
  refine wgo ?_
  repeat refine cj ?_
  refine kIf2 h (fun hb h => ?_) (fun hb h => ?_)
  obtain rfl := Option.some.inj h
  exact fin
  refine wgo ?_
  repeat refine cj ?_
  refine kIf2 h (fun hb h => ?_) (fun hb h => ?_)
  refine wgo ?_
  repeat refine cj ?_
  refine kIf2 h (fun hb h => ?_) (fun hb h => ?_)
  obtain rfl := Option.some.inj h
  exact fin
  refine wgo ?_
  repeat refine cj ?_
  refine kIf2 h (fun hb h => ?_) (fun hb h => ?_)
  refine wgo ?_
  repeat refine cj ?_
  obtain ⟨y34_3, hy34_3, h⟩ := bd h
  have e := novationseat_Deck_N.spec hy34_3
  try simp only [go_sem, List.map_set, rowsD_append, rowsD_cons, rowsD_nil, rowsD_set, rowsD_take, rowsD_drop, rowsD_replicate] at e
  refine xCall_of [] e ?_
  refine wgo ?_
  repeat refine cj ?_
  obtain ⟨y34_6, hy34_6, h⟩ := bd h
  have e := novationseat_Deck_N.spec hy34_6
  try simp only [go_sem, List.map_set, rowsD_append, rowsD_cons, rowsD_nil, rowsD_set, rowsD_take, rowsD_drop, rowsD_replicate] at e
  refine xCall_of [] e ?_
  obtain ⟨⟨hg34_11_0, hg34_11_1⟩, h⟩ := gd h
  obtain rfl := Option.some.inj h
  exact fin
  refine wgo ?_
  repeat refine cj ?_
  refine kIf2 h (fun hb h => ?_) (fun hb h => ?_)
  refine wgo ?_
  repeat refine cj ?_
  obtain ⟨y36_3, hy36_3, h⟩ := bd h
  have e := novationseat_Deck_N.spec hy36_3
  try simp only [go_sem, List.map_set, rowsD_append, rowsD_cons, rowsD_nil, rowsD_set, rowsD_take, rowsD_drop, rowsD_replicate] at e
  refine xCall_of [] e ?_
  refine wgo ?_
  repeat refine cj ?_
  obtain ⟨y36_6, hy36_6, h⟩ := bd h
  have e := novationseat_Deck_N.spec hy36_6
  try simp only [go_sem, List.map_set, rowsD_append, rowsD_cons, rowsD_nil, rowsD_set, rowsD_take, rowsD_drop, rowsD_replicate] at e
  refine xCall_of [] e ?_
  obtain rfl := Option.some.inj h
  exact fin
  refine wgo ?_
  repeat refine cj ?_
  obtain ⟨y37_2, hy37_2, h⟩ := bd h
  have e := novationseat_Deck_order.spec hy37_2
  try simp only [go_sem, List.map_set, rowsD_append, rowsD_cons, rowsD_nil, rowsD_set, rowsD_take, rowsD_drop, rowsD_replicate] at e
  refine xCall_of [] e ?_
  obtain rfl := Option.some.inj h
  exact fin
  refine wgo ?_
  repeat refine cj ?_
  refine kIf2 h (fun hb h => ?_) (fun hb h => ?_)
  refine wgo ?_
  repeat refine cj ?_
  refine kIf2 h (fun hb h => ?_) (fun hb h => ?_)
  obtain rfl := Option.some.inj h
  exact fin
  refine wgo ?_
  repeat refine cj ?_
  refine kIf2 h (fun hb h => ?_) (fun hb h => ?_)
  refine wgo ?_
  repeat refine cj ?_
  obtain ⟨y34_3, hy34_3, h⟩ := bd h
  have e := novationseat_Deck_N.spec hy34_3
  try simp only [go_sem, List.map_set, rowsD_append, rowsD_cons, rowsD_nil, rowsD_set, rowsD_take, rowsD_drop, rowsD_replicate] at e
  refine xCall_of [] e ?_
  refine wgo ?_
  repeat refine cj ?_
  obtain ⟨y34_6, hy34_6, h⟩ := bd h
  have e := novationseat_Deck_N.spec hy34_6
  try simp only [go_sem, List.map_set, rowsD_append, rowsD_cons, rowsD_nil, rowsD_set, rowsD_take, rowsD_drop, rowsD_replicate] at e
  refine xCall_of [] e ?_
  obtain ⟨⟨hg34_11_0, hg34_11_1⟩, h⟩ := gd h
  obtain rfl := Option.some.inj h
  exact fin
  refine wgo ?_
  repeat refine cj ?_
  refine kIf2 h (fun hb h => ?_) (fun hb h => ?_)
  refine wgo ?_
  repeat refine cj ?_
  obtain ⟨y36_3, hy36_3, h⟩ := bd h
  have e := novationseat_Deck_N.spec hy36_3
  try simp only [go_sem, List.map_set, rowsD_append, rowsD_cons, rowsD_nil, rowsD_set, rowsD_take, rowsD_drop, rowsD_replicate] at e
  refine xCall_of [] e ?_
  refine wgo ?_
  repeat refine cj ?_
  obtain ⟨y36_6, hy36_6, h⟩ := bd h
  have e := novationseat_Deck_N.spec hy36_6
  try simp only [go_sem, List.map_set, rowsD_append, rowsD_cons, rowsD_nil, rowsD_set, rowsD_take, rowsD_drop, rowsD_replicate] at e
  refine xCall_of [] e ?_
  obtain rfl := Option.some.inj h
  exact fin
  refine wgo ?_
  repeat refine cj ?_
  obtain ⟨y37_2, hy37_2, h⟩ := bd h
  have e := novationseat_Deck_order.spec hy37_2
  try simp only [go_sem, List.map_set, rowsD_append, rowsD_cons, rowsD_nil, rowsD_set, rowsD_take, rowsD_drop, rowsD_replicate] at e
  refine xCall_of [] e ?_
  obtain rfl := Option.some.inj h
  exact fin
  refine wgo ?_
  repeat refine cj ?_
  refine kIf2 h (fun hb h => ?_) (fun hb h => ?_)
  refine wgo ?_
  repeat refine cj ?_
  refine kIf2 h (fun hb h => ?_) (fun hb h => ?_)
  obtain rfl := Option.some.inj h
  exact fin
  refine wgo ?_
  repeat refine cj ?_
  refine kIf2 h (fun hb h => ?_) (fun hb h => ?_)
  refine wgo ?_
  repeat refine cj ?_
  obtain ⟨y34_3, hy34_3, h⟩ := bd h
  have e := novationseat_Deck_N.spec hy34_3
  try simp only [go_sem, List.map_set, rowsD_append, rowsD_cons, rowsD_nil, rowsD_set, rowsD_take, rowsD_drop, rowsD_replicate] at e
  refine xCall_of [] e ?_
  refine wgo ?_
  repeat refine cj ?_
  obtain ⟨y34_6, hy34_6, h⟩ := bd h
  have e := novationseat_Deck_N.spec hy34_6
  try simp only [go_sem, List.map_set, rowsD_append, rowsD_cons, rowsD_nil, rowsD_set, rowsD_take, rowsD_drop, rowsD_replicate] at e
  refine xCall_of [] e ?_
  obtain ⟨⟨hg34_11_0, hg34_11_1⟩, h⟩ := gd h
  obtain rfl := Option.some.inj h
  exact fin
  refine wgo ?_
  repeat refine cj ?_
  refine kIf2 h (fun hb h => ?_) (fun hb h => ?_)
  refine wgo ?_
  repeat refine cj ?_
  obtain ⟨y36_3, hy36_3, h⟩ := bd h
  have e := novationseat_Deck_N.spec hy36_3
  try simp only [go_sem, List.map_set, rowsD_append, rowsD_cons, rowsD_nil, rowsD_set, rowsD_take, rowsD_drop, rowsD_replicate] at e
  refine xCall_of [] e ?_
  refine wgo ?_
  repeat refine cj ?_
  obtain ⟨y36_6, hy36_6, h⟩ := bd h
  have e := novationseat_Deck_N.spec hy36_6
  try simp only [go_sem, List.map_set, rowsD_append, rowsD_cons, rowsD_nil, rowsD_set, rowsD_take, rowsD_drop, rowsD_replicate] at e
  refine xCall_of [] e ?_
  obtain rfl := Option.some.inj h
  exact fin
  refine wgo ?_
  repeat refine cj ?_
  obtain ⟨y37_2, hy37_2, h⟩ := bd h
  have e := novationseat_Deck_order.spec hy37_2
  try simp only [go_sem, List.map_set, rowsD_append, rowsD_cons, rowsD_nil, rowsD_set, rowsD_take, rowsD_drop, rowsD_replicate] at e
  refine xCall_of [] e ?_
  obtain rfl := Option.some.inj h
  exact fin
  refine wgo ?_
  repeat refine cj ?_
  refine kIf2 h (fun hb h => ?_) (fun hb h => ?_)
  refine wgo ?_
  repeat refine cj ?_
  refine kIf2 h (fun hb h => ?_) (fun hb h => ?_)
  obtain rfl := Option.some.inj h
  exact fin
  refine wgo ?_
  repeat refine cj ?_
  refine kIf2 h (fun hb h => ?_) (fun hb h => ?_)
  refine wgo ?_
  repeat refine cj ?_
  obtain ⟨y34_3, hy34_3, h⟩ := bd h
  have e := novationseat_Deck_N.spec hy34_3
  try simp only [go_sem, List.map_set, rowsD_append, rowsD_cons, rowsD_nil, rowsD_set, rowsD_take, rowsD_drop, rowsD_replicate] at e
  refine xCall_of [] e ?_
  refine wgo ?_
  repeat refine cj ?_
  obtain ⟨y34_6, hy34_6, h⟩ := bd h
  have e := novationseat_Deck_N.spec hy34_6
  try simp only [go_sem, List.map_set, rowsD_append, rowsD_cons, rowsD_nil, rowsD_set, rowsD_take, rowsD_drop, rowsD_replicate] at e
  refine xCall_of [] e ?_
  obtain ⟨⟨hg34_11_0, hg34_11_1⟩, h⟩ := gd h
  obtain rfl := Option.some.inj h
  exact fin
  refine wgo ?_
  repeat refine cj ?_
  refine kIf2 h (fun hb h => ?_) (fun hb h => ?_)
  refine wgo ?_
  repeat refine cj ?_
  obtain ⟨y36_3, hy36_3, h⟩ := bd h
  have e := novationseat_Deck_N.spec hy36_3
  try simp only [go_sem, List.map_set, rowsD_append, rowsD_cons, rowsD_nil, rowsD_set, rowsD_take, rowsD_drop, rowsD_replicate] at e
  refine xCall_of [] e ?_
  refine wgo ?_
  repeat refine cj ?_
  obtain ⟨y36_6, hy36_6, h⟩ := bd h
  have e := novationseat_Deck_N.spec hy36_6
  try simp only [go_sem, List.map_set, rowsD_append, rowsD_cons, rowsD_nil, rowsD_set, rowsD_take, rowsD_drop, rowsD_replicate] at e
  refine xCall_of [] e ?_
  obtain rfl := Option.some.inj h
  exact fin
  refine wgo ?_
  repeat refine cj ?_
  obtain ⟨y37_2, hy37_2, h⟩ := bd h
  have e := novationseat_Deck_order.spec hy37_2
  try simp only [go_sem, List.map_set, rowsD_append, rowsD_cons, rowsD_nil, rowsD_set, rowsD_take, rowsD_drop, rowsD_replicate] at e
  refine xCall_of [] e ?_
  obtain rfl := Option.some.inj h
  exact fin
  refine wgo ?_
  repeat refine cj ?_
  refine kIf2 h (fun hb h => ?_) (fun hb h => ?_)
  obtain rfl := Option.some.inj h
  exact fin
  refine wgo ?_
  repeat refine cj ?_
  refine kIf2 h (fun hb h => ?_) (fun hb h => ?_)
  refine wgo ?_
  repeat refine cj ?_
  obtain ⟨y34_3, hy34_3, h⟩ := bd h
  have e := novationseat_Deck_N.spec hy34_3
  try simp only [go_sem, List.map_set, rowsD_append, rowsD_cons, rowsD_nil, rowsD_set, rowsD_take, rowsD_drop, rowsD_replicate] at e
  refine xCall_of [] e ?_
  refine wgo ?_
  repeat refine cj ?_
  obtain ⟨y34_6, hy34_6, h⟩ := bd h
  have e := novationseat_Deck_N.spec hy34_6
  try simp only [go_sem, List.map_set, rowsD_append, rowsD_cons, rowsD_nil, rowsD_set, rowsD_take, rowsD_drop, rowsD_replicate] at e
  refine xCall_of [] e ?_
  obtain ⟨⟨hg34_11_0, hg34_11_1⟩, h⟩ := gd h
  obtain rfl := Option.some.inj h
  exact fin
  refine wgo ?_
  repeat refine cj ?_
  refine kIf2 h (fun hb h => ?_) (fun hb h => ?_)
  refine wgo ?_
  repeat refine cj ?_
  obtain ⟨y36_3, hy36_3, h⟩ := bd h
  have e := novationseat_Deck_N.spec hy36_3
  try simp only [go_sem, List.map_set, rowsD_append, rowsD_cons, rowsD_nil, rowsD_set, rowsD_take, rowsD_drop, rowsD_replicate] at e
  refine xCall_of [] e ?_
  refine wgo ?_
  repeat refine cj ?_
  obtain ⟨y36_6, hy36_6, h⟩ := bd h
  have e := novationseat_Deck_N.spec hy36_6
  try simp only [go_sem, List.map_set, rowsD_append, rowsD_cons, rowsD_nil, rowsD_set, rowsD_take, rowsD_drop, rowsD_replicate] at e
  refine xCall_of [] e ?_
  obtain rfl := Option.some.inj h
  exact fin
  refine wgo ?_
  repeat refine cj ?_
  obtain ⟨y37_2, hy37_2, h⟩ := bd h
  have e := novationseat_Deck_order.spec hy37_2
  try simp only [go_sem, List.map_set, rowsD_append, rowsD_cons, rowsD_nil, rowsD_set, rowsD_take, rowsD_drop, rowsD_replicate] at e
  refine xCall_of [] e ?_
  obtain rfl := Option.some.inj h
  exact fin
  refine wgo ?_
  repeat refine cj ?_
  refine kIf2 h (fun hb h => ?_) (fun hb h => ?_)
  refine wgo ?_
  repeat refine cj ?_
  obtain ⟨y16_3, hy16_3, h⟩ := bd h
  have e := novationseat_Deck_Some.spec hy16_3
  try simp only [go_sem, List.map_set, rowsD_append, rowsD_cons, rowsD_nil, rowsD_set, rowsD_take, rowsD_drop, rowsD_replicate] at e
  refine xCall_of [] e ?_
  obtain rfl := Option.some.inj h
  exact fin
  refine wgo ?_
  repeat refine cj ?_
  refine kIf2 h (fun hb h => ?_) (fun hb h => ?_)
  refine wgo ?_
  repeat refine cj ?_
  obtain ⟨y18_3, hy18_3, h⟩ := bd h
  have e := novationseat_Deck_Some.spec hy18_3
  try simp only [go_sem, List.map_set, rowsD_append, rowsD_cons, rowsD_nil, rowsD_set, rowsD_take, rowsD_drop, rowsD_replicate] at e
  refine xCall_of [] e ?_
  obtain rfl := Option.some.inj h
  exact fin
  refine wgo ?_
  repeat refine cj ?_
  refine kIf2 h (fun hb h => ?_) (fun hb h => ?_)
  refine wgo ?_
  repeat refine cj ?_
  obtain ⟨y20_3, hy20_3, h⟩ := bd h
  have e := novationseat_Deck_N.spec hy20_3
  try simp only [go_sem, List.map_set, rowsD_append, rowsD_cons, rowsD_nil, rowsD_set, rowsD_take, rowsD_drop, rowsD_replicate] at e
  refine xCall_of [] e ?_
  obtain rfl := Option.some.inj h
  exact fin
  refine wgo ?_
  repeat refine cj ?_
  refine kIf2 h (fun hb h => ?_) (fun hb h => ?_)
  refine wgo ?_
  repeat refine cj ?_
  obtain ⟨y22_3, hy22_3, h⟩ := bd h
  have e := novationseat_Deck_mark.spec hy22_3
  try simp only [go_sem, List.map_set, rowsD_append, rowsD_cons, rowsD_nil, rowsD_set, rowsD_take, rowsD_drop, rowsD_replicate] at e
  refine xCall_of [] e ?_
  obtain rfl := Option.some.inj h
  exact fin
  refine wgo ?_
  repeat refine cj ?_
  refine kIf2 h (fun hb h => ?_) (fun hb h => ?_)
  refine wgo ?_
  repeat refine cj ?_
  obtain ⟨y24_2, hy24_2, h⟩ := bd h
  have e := novationseat_Deck_N.spec hy24_2
  try simp only [go_sem, List.map_set, rowsD_append, rowsD_cons, rowsD_nil, rowsD_set, rowsD_take, rowsD_drop, rowsD_replicate] at e
  refine xCall_of [] e ?_
  obtain rfl := Option.some.inj h
  exact fin
  refine wgo ?_
  repeat refine cj ?_
  refine kIf2 h (fun hb h => ?_) (fun hb h => ?_)
  obtain rfl := Option.some.inj h
  exact fin
  refine wgo ?_
  repeat refine cj ?_
  refine kIf2 h (fun hb h => ?_) (fun hb h => ?_)
  refine wgo ?_
  repeat refine cj ?_
  refine kIf2 h (fun hb h => ?_) (fun hb h => ?_)
  obtain rfl := Option.some.inj h
  exact fin
  refine wgo ?_
  repeat refine cj ?_
  refine kIf2 h (fun hb h => ?_) (fun hb h => ?_)
  refine wgo ?_
  repeat refine cj ?_
  obtain ⟨y34_3, hy34_3, h⟩ := bd h
  have e := novationseat_Deck_N.spec hy34_3
  try simp only [go_sem, List.map_set, rowsD_append, rowsD_cons, rowsD_nil, rowsD_set, rowsD_take, rowsD_drop, rowsD_replicate] at e
  refine xCall_of [] e ?_
  refine wgo ?_
  repeat refine cj ?_
  obtain ⟨y34_6, hy34_6, h⟩ := bd h
  have e := novationseat_Deck_N.spec hy34_6
  try simp only [go_sem, List.map_set, rowsD_append, rowsD_cons, rowsD_nil, rowsD_set, rowsD_take, rowsD_drop, rowsD_replicate] at e
  refine xCall_of [] e ?_
  obtain ⟨⟨hg34_11_0, hg34_11_1⟩, h⟩ := gd h
  obtain rfl := Option.some.inj h
  exact fin
  refine wgo ?_
  repeat refine cj ?_
  refine kIf2 h (fun hb h => ?_) (fun hb h => ?_)
  refine wgo ?_
  repeat refine cj ?_
  obtain ⟨y36_3, hy36_3, h⟩ := bd h
  have e := novationseat_Deck_N.spec hy36_3
  try simp only [go_sem, List.map_set, rowsD_append, rowsD_cons, rowsD_nil, rowsD_set, rowsD_take, rowsD_drop, rowsD_replicate] at e
  refine xCall_of [] e ?_
  refine wgo ?_
  repeat refine cj ?_
  obtain ⟨y36_6, hy36_6, h⟩ := bd h
  have e := novationseat_Deck_N.spec hy36_6
  try simp only [go_sem, List.map_set, rowsD_append, rowsD_cons, rowsD_nil, rowsD_set, rowsD_take, rowsD_drop, rowsD_replicate] at e
  refine xCall_of [] e ?_
  obtain rfl := Option.some.inj h
  exact fin
  refine wgo ?_
  repeat refine cj ?_
  obtain ⟨y37_2, hy37_2, h⟩ := bd h
  have e := novationseat_Deck_order.spec hy37_2
  try simp only [go_sem, List.map_set, rowsD_append, rowsD_cons, rowsD_nil, rowsD_set, rowsD_take, rowsD_drop, rowsD_replicate] at e
  refine xCall_of [] e ?_
  obtain rfl := Option.some.inj h
  exact fin
  refine wgo ?_
  repeat refine cj ?_
  refine kIf2 h (fun hb h => ?_) (fun hb h => ?_)
  refine wgo ?_
  repeat refine cj ?_
  refine kIf2 h (fun hb h => ?_) (fun hb h => ?_)
  obtain rfl := Option.some.inj h
  exact fin
  refine wgo ?_
  repeat refine cj ?_
  refine kIf2 h (fun hb h => ?_) (fun hb h => ?_)
  refine wgo ?_
  repeat refine cj ?_
  obtain ⟨y34_3, hy34_3, h⟩ := bd h
  have e := novationseat_Deck_N.spec hy34_3
  try simp only [go_sem, List.map_set, rowsD_append, rowsD_cons, rowsD_nil, rowsD_set, rowsD_take, rowsD_drop, rowsD_replicate] at e
  refine xCall_of [] e ?_
  refine wgo ?_
  repeat refine cj ?_
  obtain ⟨y34_6, hy34_6, h⟩ := bd h
  have e := novationseat_Deck_N.spec hy34_6
  try simp only [go_sem, List.map_set, rowsD_append, rowsD_cons, rowsD_nil, rowsD_set, rowsD_take, rowsD_drop, rowsD_replicate] at e
  refine xCall_of [] e ?_
  obtain ⟨⟨hg34_11_0, hg34_11_1⟩, h⟩ := gd h
  obtain rfl := Option.some.inj h
  exact fin
  refine wgo ?_
  repeat refine cj ?_
  refine kIf2 h (fun hb h => ?_) (fun hb h => ?_)
  refine wgo ?_
  repeat refine cj ?_
  obtain ⟨y36_3, hy36_3, h⟩ := bd h
  have e := novationseat_Deck_N.spec hy36_3
  try simp only [go_sem, List.map_set, rowsD_append, rowsD_cons, rowsD_nil, rowsD_set, rowsD_take, rowsD_drop, rowsD_replicate] at e
  refine xCall_of [] e ?_
  refine wgo ?_
  repeat refine cj ?_
  obtain ⟨y36_6, hy36_6, h⟩ := bd h
  have e := novationseat_Deck_N.spec hy36_6
  try simp only [go_sem, List.map_set, rowsD_append, rowsD_cons, rowsD_nil, rowsD_set, rowsD_take, rowsD_drop, rowsD_replicate] at e
  refine xCall_of [] e ?_
  obtain rfl := Option.some.inj h
  exact fin
  refine wgo ?_
  repeat refine cj ?_
  obtain ⟨y37_2, hy37_2, h⟩ := bd h
  have e := novationseat_Deck_order.spec hy37_2
  try simp only [go_sem, List.map_set, rowsD_append, rowsD_cons, rowsD_nil, rowsD_set, rowsD_take, rowsD_drop, rowsD_replicate] at e
  refine xCall_of [] e ?_
  obtain rfl := Option.some.inj h
  exact fin
  refine wgo ?_
  repeat refine cj ?_
  refine kIf2 h (fun hb h => ?_) (fun hb h => ?_)
  refine wgo ?_
  repeat refine cj ?_
  refine kIf2 h (fun hb h => ?_) (fun hb h => ?_)
  obtain rfl := Option.some.inj h
  exact fin
  refine wgo ?_
  repeat refine cj ?_
  refine kIf2 h (fun hb h => ?_) (fun hb h => ?_)
  refine wgo ?_
  repeat refine cj ?_
  obtain ⟨y34_3, hy34_3, h⟩ := bd h
  have e := novationseat_Deck_N.spec hy34_3
  try simp only [go_sem, List.map_set, rowsD_append, rowsD_cons, rowsD_nil, rowsD_set, rowsD_take, rowsD_drop, rowsD_replicate] at e
  refine xCall_of [] e ?_
  refine wgo ?_
  repeat refine cj ?_
  obtain ⟨y34_6, hy34_6, h⟩ := bd h
  have e := novationseat_Deck_N.spec hy34_6
  try simp only [go_sem, List.map_set, rowsD_append, rowsD_cons, rowsD_nil, rowsD_set, rowsD_take, rowsD_drop, rowsD_replicate] at e
  refine xCall_of [] e ?_
  obtain ⟨⟨hg34_11_0, hg34_11_1⟩, h⟩ := gd h
  obtain rfl := Option.some.inj h
  exact fin
  refine wgo ?_
  repeat refine cj ?_
  refine kIf2 h (fun hb h => ?_) (fun hb h => ?_)
  refine wgo ?_
  repeat refine cj ?_
  obtain ⟨y36_3, hy36_3, h⟩ := bd h
  have e := novationseat_Deck_N.spec hy36_3
  try simp only [go_sem, List.map_set, rowsD_append, rowsD_cons, rowsD_nil, rowsD_set, rowsD_take, rowsD_drop, rowsD_replicate] at e
  refine xCall_of [] e ?_
  refine wgo ?_
  repeat refine cj ?_
  obtain ⟨y36_6, hy36_6, h⟩ := bd h
  have e := novationseat_Deck_N.spec hy36_6
  try simp only [go_sem, List.map_set, rowsD_append, rowsD_cons, rowsD_nil, rowsD_set, rowsD_take, rowsD_drop, rowsD_replicate] at e
  refine xCall_of [] e ?_
  obtain rfl := Option.some.inj h
  exact fin
  refine wgo ?_
  repeat refine cj ?_
  obtain ⟨y37_2, hy37_2, h⟩ := bd h
  have e := novationseat_Deck_order.spec hy37_2
  try simp only [go_sem, List.map_set, rowsD_append, rowsD_cons, rowsD_nil, rowsD_set, rowsD_take, rowsD_drop, rowsD_replicate] at e
  refine xCall_of [] e ?_
  obtain rfl := Option.some.inj h
  exact fin
  refine wgo ?_
  repeat refine cj ?_
  refine kIf2 h (fun hb h => ?_) (fun hb h => ?_)
  refine wgo ?_
  repeat refine cj ?_
  refine kIf2 h (fun hb h => ?_) (fun hb h => ?_)
  obtain rfl := Option.some.inj h
  exact fin
  refine wgo ?_
  repeat refine cj ?_
  refine kIf2 h (fun hb h => ?_) (fun hb h => ?_)
  refine wgo ?_
  repeat refine cj ?_
  obtain ⟨y34_3, hy34_3, h⟩ := bd h
  have e := novationseat_Deck_N.spec hy34_3
  try simp only [go_sem, List.map_set, rowsD_append, rowsD_cons, rowsD_nil, rowsD_set, rowsD_take, rowsD_drop, rowsD_replicate] at e
  refine xCall_of [] e ?_
  refine wgo ?_
  repeat refine cj ?_
  obtain ⟨y34_6, hy34_6, h⟩ := bd h
  have e := novationseat_Deck_N.spec hy34_6
  try simp only [go_sem, List.map_set, rowsD_append, rowsD_cons, rowsD_nil, rowsD_set, rowsD_take, rowsD_drop, rowsD_replicate] at e
  refine xCall_of [] e ?_
  obtain ⟨⟨hg34_11_0, hg34_11_1⟩, h⟩ := gd h
  obtain rfl := Option.some.inj h
  exact fin
  refine wgo ?_
  repeat refine cj ?_
  refine kIf2 h (fun hb h => ?_) (fun hb h => ?_)
  refine wgo ?_
  repeat refine cj ?_
  obtain ⟨y36_3, hy36_3, h⟩ := bd h
  have e := novationseat_Deck_N.spec hy36_3
  try simp only [go_sem, List.map_set, rowsD_append, rowsD_cons, rowsD_nil, rowsD_set, rowsD_take, rowsD_drop, rowsD_replicate] at e
  refine xCall_of [] e ?_
  refine wgo ?_
  repeat refine cj ?_
  obtain ⟨y36_6, hy36_6, h⟩ := bd h
  have e := novationseat_Deck_N.spec hy36_6
  try simp only [go_sem, List.map_set, rowsD_append, rowsD_cons, rowsD_nil, rowsD_set, rowsD_take, rowsD_drop, rowsD_replicate] at e
  refine xCall_of [] e ?_
  obtain rfl := Option.some.inj h
  exact fin
  refine wgo ?_
  repeat refine cj ?_
  obtain ⟨y37_2, hy37_2, h⟩ := bd h
  have e := novationseat_Deck_order.spec hy37_2
  try simp only [go_sem, List.map_set, rowsD_append, rowsD_cons, rowsD_nil, rowsD_set, rowsD_take, rowsD_drop, rowsD_replicate] at e
  refine xCall_of [] e ?_
  obtain rfl := Option.some.inj h
  exact fin
  refine wgo ?_
  repeat refine cj ?_
  refine kIf2 h (fun hb h => ?_) (fun hb h => ?_)
  obtain rfl := Option.some.inj h
  exact fin
  refine wgo ?_
  repeat refine cj ?_
  refine kIf2 h (fun hb h => ?_) (fun hb h => ?_)
  refine wgo ?_
  repeat refine cj ?_
  obtain ⟨y34_3, hy34_3, h⟩ := bd h
  have e := novationseat_Deck_N.spec hy34_3
  try simp only [go_sem, List.map_set, rowsD_append, rowsD_cons, rowsD_nil, rowsD_set, rowsD_take, rowsD_drop, rowsD_replicate] at e
  refine xCall_of [] e ?_
  refine wgo ?_
  repeat refine cj ?_
  obtain ⟨y34_6, hy34_6, h⟩ := bd h
  have e := novationseat_Deck_N.spec hy34_6
  try simp only [go_sem, List.map_set, rowsD_append, rowsD_cons, rowsD_nil, rowsD_set, rowsD_take, rowsD_drop, rowsD_replicate] at e
  refine xCall_of [] e ?_
  obtain ⟨⟨hg34_11_0, hg34_11_1⟩, h⟩ := gd h
  obtain rfl := Option.some.inj h
  exact fin
  refine wgo ?_
  repeat refine cj ?_
  refine kIf2 h (fun hb h => ?_) (fun hb h => ?_)
  refine wgo ?_
  repeat refine cj ?_
  obtain ⟨y36_3, hy36_3, h⟩ := bd h
  have e := novationseat_Deck_N.spec hy36_3
  try simp only [go_sem, List.map_set, rowsD_append, rowsD_cons, rowsD_nil, rowsD_set, rowsD_take, rowsD_drop, rowsD_replicate] at e
  refine xCall_of [] e ?_
  refine wgo ?_
  repeat refine cj ?_
  obtain ⟨y36_6, hy36_6, h⟩ := bd h
  have e := novationseat_Deck_N.spec hy36_6
  try simp only [go_sem, List.map_set, rowsD_append, rowsD_cons, rowsD_nil, rowsD_set, rowsD_take, rowsD_drop, rowsD_replicate] at e
  refine xCall_of [] e ?_
  obtain rfl := Option.some.inj h
  exact fin
  refine wgo ?_
  repeat refine cj ?_
  obtain ⟨y37_2, hy37_2, h⟩ := bd h
  have e := novationseat_Deck_order.spec hy37_2
  try simp only [go_sem, List.map_set, rowsD_append, rowsD_cons, rowsD_nil, rowsD_set, rowsD_take, rowsD_drop, rowsD_replicate] at e
  refine xCall_of [] e ?_
  obtain rfl := Option.some.inj h
  exact fin
  refine wgo ?_
  repeat refine cj ?_
  refine kIf2 h (fun hb h => ?_) (fun hb h => ?_)
  refine wgo ?_
  repeat refine cj ?_
  refine kIf2 h (fun hb h => ?_) (fun hb h => ?_)
  obtain rfl := Option.some.inj h
  exact fin
  refine wgo ?_
  repeat refine cj ?_
  refine kIf2 h (fun hb h => ?_) (fun hb h => ?_)
  refine wgo ?_
  repeat refine cj ?_
  obtain ⟨y10_4, hy10_4, h⟩ := bd h
  have e := novationseat_Deck_N.spec hy10_4
  try simp only [go_sem, List.map_set, rowsD_append, rowsD_cons, rowsD_nil, rowsD_set, rowsD_take, rowsD_drop, rowsD_replicate] at e
  refine xCall_of [] e ?_
  obtain rfl := Option.some.inj h
  exact fin
  refine wgo ?_
  repeat refine cj ?_
  refine kIf2 h (fun hb h => ?_) (fun hb h => ?_)
  refine wgo ?_
  repeat refine cj ?_
  refine kIf2 h (fun hb h => ?_) (fun hb h => ?_)
  refine wgo ?_
  repeat refine cj ?_
  obtain ⟨y13_3, hy13_3, h⟩ := bd h
  have e := novationseat_Deck_Some.spec hy13_3
  try simp only [go_sem, List.map_set, rowsD_append, rowsD_cons, rowsD_nil, rowsD_set, rowsD_take, rowsD_drop, rowsD_replicate] at e
  refine xCall_of [] e ?_
  obtain rfl := Option.some.inj h
  exact fin
  refine wgo ?_
  repeat refine cj ?_
  refine kIf2 h (fun hb h => ?_) (fun hb h => ?_)
  refine wgo ?_
  repeat refine cj ?_
  refine kIf2 h (fun hb h => ?_) (fun hb h => ?_)
  refine wgo ?_
  repeat refine cj ?_
  obtain ⟨y16_3, hy16_3, h⟩ := bd h
  have e := novationseat_Deck_Some.spec hy16_3
  try simp only [go_sem, List.map_set, rowsD_append, rowsD_cons, rowsD_nil, rowsD_set, rowsD_take, rowsD_drop, rowsD_replicate] at e
  refine xCall_of [] e ?_
  obtain rfl := Option.some.inj h
  exact fin
  refine wgo ?_
  repeat refine cj ?_
  refine kIf2 h (fun hb h => ?_) (fun hb h => ?_)
  refine wgo ?_
  repeat refine cj ?_
  obtain ⟨y18_3, hy18_3, h⟩ := bd h
  have e := novationseat_Deck_Some.spec hy18_3
  try simp only [go_sem, List.map_set, rowsD_append, rowsD_cons, rowsD_nil, rowsD_set, rowsD_take, rowsD_drop, rowsD_replicate] at e
  refine xCall_of [] e ?_
  obtain rfl := Option.some.inj h
  exact fin
  refine wgo ?_
  repeat refine cj ?_
  refine kIf2 h (fun hb h => ?_) (fun hb h => ?_)
  refine wgo ?_
  repeat refine cj ?_
  obtain ⟨y20_3, hy20_3, h⟩ := bd h
  have e := novationseat_Deck_N.spec hy20_3
  try simp only [go_sem, List.map_set, rowsD_append, rowsD_cons, rowsD_nil, rowsD_set, rowsD_take, rowsD_drop, rowsD_replicate] at e
  refine xCall_of [] e ?_
  obtain rfl := Option.some.inj h
  exact fin
  refine wgo ?_
  repeat refine cj ?_
  refine kIf2 h (fun hb h => ?_) (fun hb h => ?_)
  refine wgo ?_
  repeat refine cj ?_
  obtain ⟨y22_3, hy22_3, h⟩ := bd h
  have e := novationseat_Deck_mark.spec hy22_3
  try simp only [go_sem, List.map_set, rowsD_append, rowsD_cons, rowsD_nil, rowsD_set, rowsD_take, rowsD_drop, rowsD_replicate] at e
  refine xCall_of [] e ?_
  obtain rfl := Option.some.inj h
  exact fin
  refine wgo ?_
  repeat refine cj ?_
  refine kIf2 h (fun hb h => ?_) (fun hb h => ?_)
  refine wgo ?_
  repeat refine cj ?_
  obtain ⟨y24_2, hy24_2, h⟩ := bd h
  have e := novationseat_Deck_N.spec hy24_2
  try simp only [go_sem, List.map_set, rowsD_append, rowsD_cons, rowsD_nil, rowsD_set, rowsD_take, rowsD_drop, rowsD_replicate] at e
  refine xCall_of [] e ?_
  obtain rfl := Option.some.inj h
  exact fin
  refine wgo ?_
  repeat refine cj ?_
  refine kIf2 h (fun hb h => ?_) (fun hb h => ?_)
  obtain rfl := Option.some.inj h
  exact fin
  refine wgo ?_
  repeat refine cj ?_
  refine kIf2 h (fun hb h => ?_) (fun hb h => ?_)
  refine wgo ?_
  repeat refine cj ?_
  refine kIf2 h (fun hb h => ?_) (fun hb h => ?_)
  obtain rfl := Option.some.inj h
  exact fin
  refine wgo ?_
  repeat refine cj ?_
  refine kIf2 h (fun hb h => ?_) (fun hb h => ?_)
  refine wgo ?_
  repeat refine cj ?_
  obtain ⟨y34_3, hy34_3, h⟩ := bd h
  have e := novationseat_Deck_N.spec hy34_3
  try simp only [go_sem, List.map_set, rowsD_append, rowsD_cons, rowsD_nil, rowsD_set, rowsD_take, rowsD_drop, rowsD_replicate] at e
  refine xCall_of [] e ?_
  refine wgo ?_
  repeat refine cj ?_
  obtain ⟨y34_6, hy34_6, h⟩ := bd h
  have e := novationseat_Deck_N.spec hy34_6
  try simp only [go_sem, List.map_set, rowsD_append, rowsD_cons, rowsD_nil, rowsD_set, rowsD_take, rowsD_drop, rowsD_replicate] at e
  refine xCall_of [] e ?_
  obtain ⟨⟨hg34_11_0, hg34_11_1⟩, h⟩ := gd h
  obtain rfl := Option.some.inj h
  exact fin
  refine wgo ?_
  repeat refine cj ?_
  refine kIf2 h (fun hb h => ?_) (fun hb h => ?_)
  refine wgo ?_
  repeat refine cj ?_
  obtain ⟨y36_3, hy36_3, h⟩ := bd h
  have e := novationseat_Deck_N.spec hy36_3
  try simp only [go_sem, List.map_set, rowsD_append, rowsD_cons, rowsD_nil, rowsD_set, rowsD_take, rowsD_drop, rowsD_replicate] at e
  refine xCall_of [] e ?_
  refine wgo ?_
  repeat refine cj ?_
  obtain ⟨y36_6, hy36_6, h⟩ := bd h
  have e := novationseat_Deck_N.spec hy36_6
  try simp only [go_sem, List.map_set, rowsD_append, rowsD_cons, rowsD_nil, rowsD_set, rowsD_take, rowsD_drop, rowsD_replicate] at e
  refine xCall_of [] e ?_
  obtain rfl := Option.some.inj h
  exact fin
  refine wgo ?_
  repeat refine cj ?_
  obtain ⟨y37_2, hy37_2, h⟩ := bd h
  have e := novationseat_Deck_order.spec hy37_2
  try simp only [go_sem, List.map_set, rowsD_append, rowsD_cons, rowsD_nil, rowsD_set, rowsD_take, rowsD_drop, rowsD_replicate] at e
  refine xCall_of [] e ?_
  obtain rfl := Option.some.inj h
  exact fin
  refine wgo ?_
  repeat refine cj ?_
  refine kIf2 h (fun hb h => ?_) (fun hb h => ?_)
  refine wgo ?_
  repeat refine cj ?_
  refine kIf2 h (fun hb h => ?_) (fun hb h => ?_)
  obtain rfl := Option.some.inj h
  exact fin
  refine wgo ?_
  repeat refine cj ?_
  refine kIf2 h (fun hb h => ?_) (fun hb h => ?_)
  refine wgo ?_
  repeat refine cj ?_
  obtain ⟨y34_3, hy34_3, h⟩ := bd h
  have e := novationseat_Deck_N.spec hy34_3
  try simp only [go_sem, List.map_set, rowsD_append, rowsD_cons, rowsD_nil, rowsD_set, rowsD_take, rowsD_drop, rowsD_replicate] at e
  refine xCall_of [] e ?_
  refine wgo ?_
  repeat refine cj ?_
  obtain ⟨y34_6, hy34_6, h⟩ := bd h
  have e := novationseat_Deck_N.spec hy34_6
  try simp only [go_sem, List.map_set, rowsD_append, rowsD_cons, rowsD_nil, rowsD_set, rowsD_take, rowsD_drop, rowsD_replicate] at e
  refine xCall_of [] e ?_
  obtain ⟨⟨hg34_11_0, hg34_11_1⟩, h⟩ := gd h
  obtain rfl := Option.some.inj h
  exact fin
  refine wgo ?_
  repeat refine cj ?_
  refine kIf2 h (fun hb h => ?_) (fun hb h => ?_)
  refine wgo ?_
  repeat refine cj ?_
  obtain ⟨y36_3, hy36_3, h⟩ := bd h
  have e := novationseat_Deck_N.spec hy36_3
  try simp only [go_sem, List.map_set, rowsD_append, rowsD_cons, rowsD_nil, rowsD_set, rowsD_take, rowsD_drop, rowsD_replicate] at e
  refine xCall_of [] e ?_
  refine wgo ?_
  repeat refine cj ?_
  obtain ⟨y36_6, hy36_6, h⟩ := bd h
  have e := novationseat_Deck_N.spec hy36_6
  try simp only [go_sem, List.map_set, rowsD_append, rowsD_cons, rowsD_nil, rowsD_set, rowsD_take, rowsD_drop, rowsD_replicate] at e
  refine xCall_of [] e ?_
  obtain rfl := Option.some.inj h
  exact fin
  refine wgo ?_
  repeat refine cj ?_
  obtain ⟨y37_2, hy37_2, h⟩ := bd h
  have e := novationseat_Deck_order.spec hy37_2
  try simp only [go_sem, List.map_set, rowsD_append, rowsD_cons, rowsD_nil, rowsD_set, rowsD_take, rowsD_drop, rowsD_replicate] at e
  refine xCall_of [] e ?_
  obtain rfl := Option.some.inj h
  exact fin
  refine wgo ?_
  repeat refine cj ?_
  refine kIf2 h (fun hb h => ?_) (fun hb h => ?_)
  refine wgo ?_
  repeat refine cj ?_
  refine kIf2 h (fun hb h => ?_) (fun hb h => ?_)
  obtain rfl := Option.some.inj h
  exact fin
  refine wgo ?_
  repeat refine cj ?_
  refine kIf2 h (fun hb h => ?_) (fun hb h => ?_)
  refine wgo ?_
  repeat refine cj ?_
  obtain ⟨y34_3, hy34_3, h⟩ := bd h
  have e := novationseat_Deck_N.spec hy34_3
  try simp only [go_sem, List.map_set, rowsD_append, rowsD_cons, rowsD_nil, rowsD_set, rowsD_take, rowsD_drop, rowsD_replicate] at e
  refine xCall_of [] e ?_
  refine wgo ?_
  repeat refine cj ?_
  obtain ⟨y34_6, hy34_6, h⟩ := bd h
  have e := novationseat_Deck_N.spec hy34_6
  try simp only [go_sem, List.map_set, rowsD_append, rowsD_cons, rowsD_nil, rowsD_set, rowsD_take, rowsD_drop, rowsD_replicate] at e
  refine xCall_of [] e ?_
  obtain ⟨⟨hg34_11_0, hg34_11_1⟩, h⟩ := gd h
  obtain rfl := Option.some.inj h
  exact fin
  refine wgo ?_
  repeat refine cj ?_
  refine kIf2 h (fun hb h => ?_) (fun hb h => ?_)
  refine wgo ?_
  repeat refine cj ?_
  obtain ⟨y36_3, hy36_3, h⟩ := bd h
  have e := novationseat_Deck_N.spec hy36_3
  try simp only [go_sem, List.map_set, rowsD_append, rowsD_cons, rowsD_nil, rowsD_set, rowsD_take, rowsD_drop, rowsD_replicate] at e
  refine xCall_of [] e ?_
  refine wgo ?_
  repeat refine cj ?_
  obtain ⟨y36_6, hy36_6, h⟩ := bd h
  have e := novationseat_Deck_N.spec hy36_6
  try simp only [go_sem, List.map_set, rowsD_append, rowsD_cons, rowsD_nil, rowsD_set, rowsD_take, rowsD_drop, rowsD_replicate] at e
  refine xCall_of [] e ?_
  obtain rfl := Option.some.inj h
  exact fin
  refine wgo ?_
  repeat refine cj ?_
  obtain ⟨y37_2, hy37_2, h⟩ := bd h
  have e := novationseat_Deck_order.spec hy37_2
  try simp only [go_sem, List.map_set, rowsD_append, rowsD_cons, rowsD_nil, rowsD_set, rowsD_take, rowsD_drop, rowsD_replicate] at e
  refine xCall_of [] e ?_
  obtain rfl := Option.some.inj h
  exact fin
  refine wgo ?_
  repeat refine cj ?_
  refine kIf2 h (fun hb h => ?_) (fun hb h => ?_)
  refine wgo ?_
  repeat refine cj ?_
  refine kIf2 h (fun hb h => ?_) (fun hb h => ?_)
  obtain rfl := Option.some.inj h
  exact fin
  refine wgo ?_
  repeat refine cj ?_
  refine kIf2 h (fun hb h => ?_) (fun hb h => ?_)
  refine wgo ?_
  repeat refine cj ?_
  obtain ⟨y34_3, hy34_3, h⟩ := bd h
  have e := novationseat_Deck_N.spec hy34_3
  try simp only [go_sem, List.map_set, rowsD_append, rowsD_cons, rowsD_nil, rowsD_set, rowsD_take, rowsD_drop, rowsD_replicate] at e
  refine xCall_of [] e ?_
  refine wgo ?_
  repeat refine cj ?_
  obtain ⟨y34_6, hy34_6, h⟩ := bd h
  have e := novationseat_Deck_N.spec hy34_6
  try simp only [go_sem, List.map_set, rowsD_append, rowsD_cons, rowsD_nil, rowsD_set, rowsD_take, rowsD_drop, rowsD_replicate] at e
  refine xCall_of [] e ?_
  obtain ⟨⟨hg34_11_0, hg34_11_1⟩, h⟩ := gd h
  obtain rfl := Option.some.inj h
  exact fin
  refine wgo ?_
  repeat refine cj ?_
  refine kIf2 h (fun hb h => ?_) (fun hb h => ?_)
  refine wgo ?_
  repeat refine cj ?_
  obtain ⟨y36_3, hy36_3, h⟩ := bd h
  have e := novationseat_Deck_N.spec hy36_3
  try simp only [go_sem, List.map_set, rowsD_append, rowsD_cons, rowsD_nil, rowsD_set, rowsD_take, rowsD_drop, rowsD_replicate] at e
  refine xCall_of [] e ?_
  refine wgo ?_
  repeat refine cj ?_
  obtain ⟨y36_6, hy36_6, h⟩ := bd h
  have e := novationseat_Deck_N.spec hy36_6
  try simp only [go_sem, List.map_set, rowsD_append, rowsD_cons, rowsD_nil, rowsD_set, rowsD_take, rowsD_drop, rowsD_replicate] at e
  refine xCall_of [] e ?_
  obtain rfl := Option.some.inj h
  exact fin
  refine wgo ?_
  repeat refine cj ?_
  obtain ⟨y37_2, hy37_2, h⟩ := bd h
  have e := novationseat_Deck_order.spec hy37_2
  try simp only [go_sem, List.map_set, rowsD_append, rowsD_cons, rowsD_nil, rowsD_set, rowsD_take, rowsD_drop, rowsD_replicate] at e
  refine xCall_of [] e ?_
  obtain rfl := Option.some.inj h
  exact fin
  refine wgo ?_
  repeat refine cj ?_
  refine kIf2 h (fun hb h => ?_) (fun hb h => ?_)
  obtain rfl := Option.some.inj h
  exact fin
  refine wgo ?_
  repeat refine cj ?_
  refine kIf2 h (fun hb h => ?_) (fun hb h => ?_)
  refine wgo ?_
  repeat refine cj ?_
  obtain ⟨y34_3, hy34_3, h⟩ := bd h
  have e := novationseat_Deck_N.spec hy34_3
  try simp only [go_sem, List.map_set, rowsD_append, rowsD_cons, rowsD_nil, rowsD_set, rowsD_take, rowsD_drop, rowsD_replicate] at e
  refine xCall_of [] e ?_
  refine wgo ?_
  repeat refine cj ?_
  obtain ⟨y34_6, hy34_6, h⟩ := bd h
  have e := novationseat_Deck_N.spec hy34_6
  try simp only [go_sem, List.map_set, rowsD_append, rowsD_cons, rowsD_nil, rowsD_set, rowsD_take, rowsD_drop, rowsD_replicate] at e
  refine xCall_of [] e ?_
  obtain ⟨⟨hg34_11_0, hg34_11_1⟩, h⟩ := gd h
  obtain rfl := Option.some.inj h
  exact fin
  refine wgo ?_
  repeat refine cj ?_
  refine kIf2 h (fun hb h => ?_) (fun hb h => ?_)
  refine wgo ?_
  repeat refine cj ?_
  obtain ⟨y36_3, hy36_3, h⟩ := bd h
  have e := novationseat_Deck_N.spec hy36_3
  try simp only [go_sem, List.map_set, rowsD_append, rowsD_cons, rowsD_nil, rowsD_set, rowsD_take, rowsD_drop, rowsD_replicate] at e
  refine xCall_of [] e ?_
  refine wgo ?_
  repeat refine cj ?_
  obtain ⟨y36_6, hy36_6, h⟩ := bd h
  have e := novationseat_Deck_N.spec hy36_6
  try simp only [go_sem, List.map_set, rowsD_append, rowsD_cons, rowsD_nil, rowsD_set, rowsD_take, rowsD_drop, rowsD_replicate] at e
  refine xCall_of [] e ?_
  obtain rfl := Option.some.inj h
  exact fin
  refine wgo ?_
  repeat refine cj ?_
  obtain ⟨y37_2, hy37_2, h⟩ := bd h
  have e := novationseat_Deck_order.spec hy37_2
  try simp only [go_sem, List.map_set, rowsD_append, rowsD_cons, rowsD_nil, rowsD_set, rowsD_take, rowsD_drop, rowsD_replicate] at e
  refine xCall_of [] e ?_
  obtain rfl := Option.some.inj h
  exact fin
  refine wgo ?_
  repeat refine cj ?_
  refine kIf2 h (fun hb h => ?_) (fun hb h => ?_)
  refine wgo ?_
  repeat refine cj ?_
  obtain ⟨y16_3, hy16_3, h⟩ := bd h
  have e := novationseat_Deck_Some.spec hy16_3
  try simp only [go_sem, List.map_set, rowsD_append, rowsD_cons, rowsD_nil, rowsD_set, rowsD_take, rowsD_drop, rowsD_replicate] at e
  refine xCall_of [] e ?_
  obtain rfl := Option.some.inj h
  exact fin
  refine wgo ?_
  repeat refine cj ?_
  refine kIf2 h (fun hb h => ?_) (fun hb h => ?_)
  refine wgo ?_
  repeat refine cj ?_
  obtain ⟨y18_3, hy18_3, h⟩ := bd h
  have e := novationseat_Deck_Some.spec hy18_3
  try simp only [go_sem, List.map_set, rowsD_append, rowsD_cons, rowsD_nil, rowsD_set, rowsD_take, rowsD_drop, rowsD_replicate] at e
  refine xCall_of [] e ?_
  obtain rfl := Option.some.inj h
  exact fin
  refine wgo ?_
  repeat refine cj ?_
  refine kIf2 h (fun hb h => ?_) (fun hb h => ?_)
  refine wgo ?_
  repeat refine cj ?_
  obtain ⟨y20_3, hy20_3, h⟩ := bd h
  have e := novationseat_Deck_N.spec hy20_3
  try simp only [go_sem, List.map_set, rowsD_append, rowsD_cons, rowsD_nil, rowsD_set, rowsD_take, rowsD_drop, rowsD_replicate] at e
  refine xCall_of [] e ?_
  obtain rfl := Option.some.inj h
  exact fin
  refine wgo ?_
  repeat refine cj ?_
  refine kIf2 h (fun hb h => ?_) (fun hb h => ?_)
  refine wgo ?_
  repeat refine cj ?_
  obtain ⟨y22_3, hy22_3, h⟩ := bd h
  have e := novationseat_Deck_mark.spec hy22_3
  try simp only [go_sem, List.map_set, rowsD_append, rowsD_cons, rowsD_nil, rowsD_set, rowsD_take, rowsD_drop, rowsD_replicate] at e
  refine xCall_of [] e ?_
  obtain rfl := Option.some.inj h
  exact fin
  refine wgo ?_
  repeat refine cj ?_
  refine kIf2 h (fun hb h => ?_) (fun hb h => ?_)
  refine wgo ?_
  repeat refine cj ?_
  obtain ⟨y24_2, hy24_2, h⟩ := bd h
  have e := novationseat_Deck_N.spec hy24_2
  try simp only [go_sem, List.map_set, rowsD_append, rowsD_cons, rowsD_nil, rowsD_set, rowsD_take, rowsD_drop, rowsD_replicate] at e
  refine xCall_of [] e ?_
  obtain rfl := Option.some.inj h
  exact fin
  refine wgo ?_
  repeat refine cj ?_
  refine kIf2 h (fun hb h => ?_) (fun hb h => ?_)
  obtain rfl := Option.some.inj h
  exact fin
  refine wgo ?_
  repeat refine cj ?_
  refine kIf2 h (fun hb h => ?_) (fun hb h => ?_)
  refine wgo ?_
  repeat refine cj ?_
  refine kIf2 h (fun hb h => ?_) (fun hb h => ?_)
  obtain rfl := Option.some.inj h
  exact fin
  refine wgo ?_
  repeat refine cj ?_
  refine kIf2 h (fun hb h => ?_) (fun hb h => ?_)
  refine wgo ?_
  repeat refine cj ?_
  obtain ⟨y34_3, hy34_3, h⟩ := bd h
  have e := novationseat_Deck_N.spec hy34_3
  try simp only [go_sem, List.map_set, rowsD_append, rowsD_cons, rowsD_nil, rowsD_set, rowsD_take, rowsD_drop, rowsD_replicate] at e
  refine xCall_of [] e ?_
  refine wgo ?_
  repeat refine cj ?_
  obtain ⟨y34_6, hy34_6, h⟩ := bd h
  have e := novationseat_Deck_N.spec hy34_6
  try simp only [go_sem, List.map_set, rowsD_append, rowsD_cons, rowsD_nil, rowsD_set, rowsD_take, rowsD_drop, rowsD_replicate] at e
  refine xCall_of [] e ?_
  obtain ⟨⟨hg34_11_0, hg34_11_1⟩, h⟩ := gd h
  obtain rfl := Option.some.inj h
  exact fin
  refine wgo ?_
  repeat refine cj ?_
  refine kIf2 h (fun hb h => ?_) (fun hb h => ?_)
  refine wgo ?_
  repeat refine cj ?_
  obtain ⟨y36_3, hy36_3, h⟩ := bd h
  have e := novationseat_Deck_N.spec hy36_3
  try simp only [go_sem, List.map_set, rowsD_append, rowsD_cons, rowsD_nil, rowsD_set, rowsD_take, rowsD_drop, rowsD_replicate] at e
  refine xCall_of [] e ?_
  refine wgo ?_
  repeat refine cj ?_
  obtain ⟨y36_6, hy36_6, h⟩ := bd h
  have e := novationseat_Deck_N.spec hy36_6
  try simp only [go_sem, List.map_set, rowsD_append, rowsD_cons, rowsD_nil, rowsD_set, rowsD_take, rowsD_drop, rowsD_replicate] at e
  refine xCall_of [] e ?_
  obtain rfl := Option.some.inj h
  exact fin
  refine wgo ?_
  repeat refine cj ?_
  obtain ⟨y37_2, hy37_2, h⟩ := bd h
  have e := novationseat_Deck_order.spec hy37_2
  try simp only [go_sem, List.map_set, rowsD_append, rowsD_cons, rowsD_nil, rowsD_set, rowsD_take, rowsD_drop, rowsD_replicate] at e
  refine xCall_of [] e ?_
  obtain rfl := Option.some.inj h
  exact fin
  refine wgo ?_
  repeat refine cj ?_
  refine kIf2 h (fun hb h => ?_) (fun hb h => ?_)
  refine wgo ?_
  repeat refine cj ?_
  refine kIf2 h (fun hb h => ?_) (fun hb h => ?_)
  obtain rfl := Option.some.inj h
  exact fin
  refine wgo ?_
  repeat refine cj ?_
  refine kIf2 h (fun hb h => ?_) (fun hb h => ?_)
  refine wgo ?_
  repeat refine cj ?_
  obtain ⟨y34_3, hy34_3, h⟩ := bd h
  have e := novationseat_Deck_N.spec hy34_3
  try simp only [go_sem, List.map_set, rowsD_append, rowsD_cons, rowsD_nil, rowsD_set, rowsD_take, rowsD_drop, rowsD_replicate] at e
  refine xCall_of [] e ?_
  refine wgo ?_
  repeat refine cj ?_
  obtain ⟨y34_6, hy34_6, h⟩ := bd h
  have e := novationseat_Deck_N.spec hy34_6
  try simp only [go_sem, List.map_set, rowsD_append, rowsD_cons, rowsD_nil, rowsD_set, rowsD_take, rowsD_drop, rowsD_replicate] at e
  refine xCall_of [] e ?_
  obtain ⟨⟨hg34_11_0, hg34_11_1⟩, h⟩ := gd h
  obtain rfl := Option.some.inj h
  exact fin
  refine wgo ?_
  repeat refine cj ?_
  refine kIf2 h (fun hb h => ?_) (fun hb h => ?_)
  refine wgo ?_
  repeat refine cj ?_
  obtain ⟨y36_3, hy36_3, h⟩ := bd h
  have e := novationseat_Deck_N.spec hy36_3
  try simp only [go_sem, List.map_set, rowsD_append, rowsD_cons, rowsD_nil, rowsD_set, rowsD_take, rowsD_drop, rowsD_replicate] at e
  refine xCall_of [] e ?_
  refine wgo ?_
  repeat refine cj ?_
  obtain ⟨y36_6, hy36_6, h⟩ := bd h
  have e := novationseat_Deck_N.spec hy36_6
  try simp only [go_sem, List.map_set, rowsD_append, rowsD_cons, rowsD_nil, rowsD_set, rowsD_take, rowsD_drop, rowsD_replicate] at e
  refine xCall_of [] e ?_
  obtain rfl := Option.some.inj h
  exact fin
  refine wgo ?_
  repeat refine cj ?_
  obtain ⟨y37_2, hy37_2, h⟩ := bd h
  have e := novationseat_Deck_order.spec hy37_2
  try simp only [go_sem, List.map_set, rowsD_append, rowsD_cons, rowsD_nil, rowsD_set, rowsD_take, rowsD_drop, rowsD_replicate] at e
  refine xCall_of [] e ?_
  obtain rfl := Option.some.inj h
  exact fin
  refine wgo ?_
  repeat refine cj ?_
  refine kIf2 h (fun hb h => ?_) (fun hb h => ?_)
  refine wgo ?_
  repeat refine cj ?_
  refine kIf2 h (fun hb h => ?_) (fun hb h => ?_)
  obtain rfl := Option.some.inj h
  exact fin
  refine wgo ?_
  repeat refine cj ?_
  refine kIf2 h (fun hb h => ?_) (fun hb h => ?_)
  refine wgo ?_
  repeat refine cj ?_
  obtain ⟨y34_3, hy34_3, h⟩ := bd h
  have e := novationseat_Deck_N.spec hy34_3
  try simp only [go_sem, List.map_set, rowsD_append, rowsD_cons, rowsD_nil, rowsD_set, rowsD_take, rowsD_drop, rowsD_replicate] at e
  refine xCall_of [] e ?_
  refine wgo ?_
  repeat refine cj ?_
  obtain ⟨y34_6, hy34_6, h⟩ := bd h
  have e := novationseat_Deck_N.spec hy34_6
  try simp only [go_sem, List.map_set, rowsD_append, rowsD_cons, rowsD_nil, rowsD_set, rowsD_take, rowsD_drop, rowsD_replicate] at e
  refine xCall_of [] e ?_
  obtain ⟨⟨hg34_11_0, hg34_11_1⟩, h⟩ := gd h
  obtain rfl := Option.some.inj h
  exact fin
  refine wgo ?_
  repeat refine cj ?_
  refine kIf2 h (fun hb h => ?_) (fun hb h => ?_)
  refine wgo ?_
  repeat refine cj ?_
  obtain ⟨y36_3, hy36_3, h⟩ := bd h
  have e := novationseat_Deck_N.spec hy36_3
  try simp only [go_sem, List.map_set, rowsD_append, rowsD_cons, rowsD_nil, rowsD_set, rowsD_take, rowsD_drop, rowsD_replicate] at e
  refine xCall_of [] e ?_
  refine wgo ?_
  repeat refine cj ?_
  obtain ⟨y36_6, hy36_6, h⟩ := bd h
  have e := novationseat_Deck_N.spec hy36_6
  try simp only [go_sem, List.map_set, rowsD_append, rowsD_cons, rowsD_nil, rowsD_set, rowsD_take, rowsD_drop, rowsD_replicate] at e
  refine xCall_of [] e ?_
  obtain rfl := Option.some.inj h
  exact fin
  refine wgo ?_
  repeat refine cj ?_
  obtain ⟨y37_2, hy37_2, h⟩ := bd h
  have e := novationseat_Deck_order.spec hy37_2
  try simp only [go_sem, List.map_set, rowsD_append, rowsD_cons, rowsD_nil, rowsD_set, rowsD_take, rowsD_drop, rowsD_replicate] at e
  refine xCall_of [] e ?_
  obtain rfl := Option.some.inj h
  exact fin
  refine wgo ?_
  repeat refine cj ?_
  refine kIf2 h (fun hb h => ?_) (fun hb h => ?_)
  refine wgo ?_
  repeat refine cj ?_
  refine kIf2 h (fun hb h => ?_) (fun hb h => ?_)
  obtain rfl := Option.some.inj h
  exact fin
  refine wgo ?_
  repeat refine cj ?_
  refine kIf2 h (fun hb h => ?_) (fun hb h => ?_)
  refine wgo ?_
  repeat refine cj ?_
  obtain ⟨y34_3, hy34_3, h⟩ := bd h
  have e := novationseat_Deck_N.spec hy34_3
  try simp only [go_sem, List.map_set, rowsD_append, rowsD_cons, rowsD_nil, rowsD_set, rowsD_take, rowsD_drop, rowsD_replicate] at e
  refine xCall_of [] e ?_
  refine wgo ?_
  repeat refine cj ?_
  obtain ⟨y34_6, hy34_6, h⟩ := bd h
  have e := novationseat_Deck_N.spec hy34_6
  try simp only [go_sem, List.map_set, rowsD_append, rowsD_cons, rowsD_nil, rowsD_set, rowsD_take, rowsD_drop, rowsD_replicate] at e
  refine xCall_of [] e ?_
  obtain ⟨⟨hg34_11_0, hg34_11_1⟩, h⟩ := gd h
  obtain rfl := Option.some.inj h
  exact fin
  refine wgo ?_
  repeat refine cj ?_
  refine kIf2 h (fun hb h => ?_) (fun hb h => ?_)
  refine wgo ?_
  repeat refine cj ?_
  obtain ⟨y36_3, hy36_3, h⟩ := bd h
  have e := novationseat_Deck_N.spec hy36_3
  try simp only [go_sem, List.map_set, rowsD_append, rowsD_cons, rowsD_nil, rowsD_set, rowsD_take, rowsD_drop, rowsD_replicate] at e
  refine xCall_of [] e ?_
  refine wgo ?_
  repeat refine cj ?_
  obtain ⟨y36_6, hy36_6, h⟩ := bd h
  have e := novationseat_Deck_N.spec hy36_6
  try simp only [go_sem, List.map_set, rowsD_append, rowsD_cons, rowsD_nil, rowsD_set, rowsD_take, rowsD_drop, rowsD_replicate] at e
  refine xCall_of [] e ?_
  obtain rfl := Option.some.inj h
  exact fin
  refine wgo ?_
  repeat refine cj ?_
  obtain ⟨y37_2, hy37_2, h⟩ := bd h
  have e := novationseat_Deck_order.spec hy37_2
  try simp only [go_sem, List.map_set, rowsD_append, rowsD_cons, rowsD_nil, rowsD_set, rowsD_take, rowsD_drop, rowsD_replicate] at e
  refine xCall_of [] e ?_
  obtain rfl := Option.some.inj h
  exact fin
  refine wgo ?_
  repeat refine cj ?_
  refine kIf2 h (fun hb h => ?_) (fun hb h => ?_)
  obtain rfl := Option.some.inj h
  exact fin
  refine wgo ?_
  repeat refine cj ?_
  refine kIf2 h (fun hb h => ?_) (fun hb h => ?_)
  refine wgo ?_
  repeat refine cj ?_
  obtain ⟨y34_3, hy34_3, h⟩ := bd h
  have e := novationseat_Deck_N.spec hy34_3
  try simp only [go_sem, List.map_set, rowsD_append, rowsD_cons, rowsD_nil, rowsD_set, rowsD_take, rowsD_drop, rowsD_replicate] at e
  refine xCall_of [] e ?_
  refine wgo ?_
  repeat refine cj ?_
  obtain ⟨y34_6, hy34_6, h⟩ := bd h
  have e := novationseat_Deck_N.spec hy34_6
  try simp only [go_sem, List.map_set, rowsD_append, rowsD_cons, rowsD_nil, rowsD_set, rowsD_take, rowsD_drop, rowsD_replicate] at e
  refine xCall_of [] e ?_
  obtain ⟨⟨hg34_11_0, hg34_11_1⟩, h⟩ := gd h
  obtain rfl := Option.some.inj h
  exact fin
  refine wgo ?_
  repeat refine cj ?_
  refine kIf2 h (fun hb h => ?_) (fun hb h => ?_)
  refine wgo ?_
  repeat refine cj ?_
  obtain ⟨y36_3, hy36_3, h⟩ := bd h
  have e := novationseat_Deck_N.spec hy36_3
  try simp only [go_sem, List.map_set, rowsD_append, rowsD_cons, rowsD_nil, rowsD_set, rowsD_take, rowsD_drop, rowsD_replicate] at e
  refine xCall_of [] e ?_
  refine wgo ?_
  repeat refine cj ?_
  obtain ⟨y36_6, hy36_6, h⟩ := bd h
  have e := novationseat_Deck_N.spec hy36_6
  try simp only [go_sem, List.map_set, rowsD_append, rowsD_cons, rowsD_nil, rowsD_set, rowsD_take, rowsD_drop, rowsD_replicate] at e
  refine xCall_of [] e ?_
  obtain rfl := Option.some.inj h
  exact fin
  refine wgo ?_
  repeat refine cj ?_
  obtain ⟨y37_2, hy37_2, h⟩ := bd h
  have e := novationseat_Deck_order.spec hy37_2
  try simp only [go_sem, List.map_set, rowsD_append, rowsD_cons, rowsD_nil, rowsD_set, rowsD_take, rowsD_drop, rowsD_replicate] at e
  refine xCall_of [] e ?_
  obtain rfl := Option.some.inj h
  exact fin
  refine wgo ?_
  repeat refine cj ?_
  refine kIf2 h (fun hb h => ?_) (fun hb h => ?_)
  refine wgo ?_
  repeat refine cj ?_
  obtain ⟨y13_3, hy13_3, h⟩ := bd h
  have e := novationseat_Deck_Some.spec hy13_3
  try simp only [go_sem, List.map_set, rowsD_append, rowsD_cons, rowsD_nil, rowsD_set, rowsD_take, rowsD_drop, rowsD_replicate] at e
  refine xCall_of [] e ?_
  obtain rfl := Option.some.inj h
  exact fin
  refine wgo ?_
  repeat refine cj ?_
  refine kIf2 h (fun hb h => ?_) (fun hb h => ?_)
  refine wgo ?_
  repeat refine cj ?_
  refine kIf2 h (fun hb h => ?_) (fun hb h => ?_)
  refine wgo ?_
  repeat refine cj ?_
  obtain ⟨y16_3, hy16_3, h⟩ := bd h
  have e := novationseat_Deck_Some.spec hy16_3
  try simp only [go_sem, List.map_set, rowsD_append, rowsD_cons, rowsD_nil, rowsD_set, rowsD_take, rowsD_drop, rowsD_replicate] at e
  refine xCall_of [] e ?_
  obtain rfl := Option.some.inj h
  exact fin
  refine wgo ?_
  repeat refine cj ?_
  refine kIf2 h (fun hb h => ?_) (fun hb h => ?_)
  refine wgo ?_
  repeat refine cj ?_
  obtain ⟨y18_3, hy18_3, h⟩ := bd h
  have e := novationseat_Deck_Some.spec hy18_3
  try simp only [go_sem, List.map_set, rowsD_append, rowsD_cons, rowsD_nil, rowsD_set, rowsD_take, rowsD_drop, rowsD_replicate] at e
  refine xCall_of [] e ?_
  obtain rfl := Option.some.inj h
  exact fin
  refine wgo ?_
  repeat refine cj ?_
  refine kIf2 h (fun hb h => ?_) (fun hb h => ?_)
  refine wgo ?_
  repeat refine cj ?_
  obtain ⟨y20_3, hy20_3, h⟩ := bd h
  have e := novationseat_Deck_N.spec hy20_3
  try simp only [go_sem, List.map_set, rowsD_append, rowsD_cons, rowsD_nil, rowsD_set, rowsD_take, rowsD_drop, rowsD_replicate] at e
  refine xCall_of [] e ?_
  obtain rfl := Option.some.inj h
  exact fin
  refine wgo ?_
  repeat refine cj ?_
  refine kIf2 h (fun hb h => ?_) (fun hb h => ?_)
  refine wgo ?_
  repeat refine cj ?_
  obtain ⟨y22_3, hy22_3, h⟩ := bd h
  have e := novationseat_Deck_mark.spec hy22_3
  try simp only [go_sem, List.map_set, rowsD_append, rowsD_cons, rowsD_nil, rowsD_set, rowsD_take, rowsD_drop, rowsD_replicate] at e
  refine xCall_of [] e ?_
  obtain rfl := Option.some.inj h
  exact fin
  refine wgo ?_
  repeat refine cj ?_
  refine kIf2 h (fun hb h => ?_) (fun hb h => ?_)
  refine wgo ?_
  repeat refine cj ?_
  obtain ⟨y24_2, hy24_2, h⟩ := bd h
  have e := novationseat_Deck_N.spec hy24_2
  try simp only [go_sem, List.map_set, rowsD_append, rowsD_cons, rowsD_nil, rowsD_set, rowsD_take, rowsD_drop, rowsD_replicate] at e
  refine xCall_of [] e ?_
  obtain rfl := Option.some.inj h
  exact fin
  refine wgo ?_
  repeat refine cj ?_
  refine kIf2 h (fun hb h => ?_) (fun hb h => ?_)
  obtain rfl := Option.some.inj h
  exact fin
  refine wgo ?_
  repeat refine cj ?_
  refine kIf2 h (fun hb h => ?_) (fun hb h => ?_)
  refine wgo ?_
  repeat refine cj ?_
  refine kIf2 h (fun hb h => ?_) (fun hb h => ?_)
  obtain rfl := Option.some.inj h
  exact fin
  refine wgo ?_
  repeat refine cj ?_
  refine kIf2 h (fun hb h => ?_) (fun hb h => ?_)
  refine wgo ?_
  repeat refine cj ?_
  obtain ⟨y34_3, hy34_3, h⟩ := bd h
  have e := novationseat_Deck_N.spec hy34_3
  try simp only [go_sem, List.map_set, rowsD_append, rowsD_cons, rowsD_nil, rowsD_set, rowsD_take, rowsD_drop, rowsD_replicate] at e
  refine xCall_of [] e ?_
  refine wgo ?_
  repeat refine cj ?_
  obtain ⟨y34_6, hy34_6, h⟩ := bd h
  have e := novationseat_Deck_N.spec hy34_6
  try simp only [go_sem, List.map_set, rowsD_append, rowsD_cons, rowsD_nil, rowsD_set, rowsD_take, rowsD_drop, rowsD_replicate] at e
  refine xCall_of [] e ?_
  obtain ⟨⟨hg34_11_0, hg34_11_1⟩, h⟩ := gd h
  obtain rfl := Option.some.inj h
  exact fin
  refine wgo ?_
  repeat refine cj ?_
  refine kIf2 h (fun hb h => ?_) (fun hb h => ?_)
  refine wgo ?_
  repeat refine cj ?_
  obtain ⟨y36_3, hy36_3, h⟩ := bd h
  have e := novationseat_Deck_N.spec hy36_3
  try simp only [go_sem, List.map_set, rowsD_append, rowsD_cons, rowsD_nil, rowsD_set, rowsD_take, rowsD_drop, rowsD_replicate] at e
  refine xCall_of [] e ?_
  refine wgo ?_
  repeat refine cj ?_
  obtain ⟨y36_6, hy36_6, h⟩ := bd h
  have e := novationseat_Deck_N.spec hy36_6
  try simp only [go_sem, List.map_set, rowsD_append, rowsD_cons, rowsD_nil, rowsD_set, rowsD_take, rowsD_drop, rowsD_replicate] at e
  refine xCall_of [] e ?_
  obtain rfl := Option.some.inj h
  exact fin
  refine wgo ?_
  repeat refine cj ?_
  obtain ⟨y37_2, hy37_2, h⟩ := bd h
  have e := novationseat_Deck_order.spec hy37_2
  try simp only [go_sem, List.map_set, rowsD_append, rowsD_cons, rowsD_nil, rowsD_set, rowsD_take, rowsD_drop, rowsD_replicate] at e
  refine xCall_of [] e ?_
  obtain rfl := Option.some.inj h
  exact fin
  refine wgo ?_
  repeat refine cj ?_
  refine kIf2 h (fun hb h => ?_) (fun hb h => ?_)
  refine wgo ?_
  repeat refine cj ?_
  refine kIf2 h (fun hb h => ?_) (fun hb h => ?_)
  obtain rfl := Option.some.inj h
  exact fin
  refine wgo ?_
  repeat refine cj ?_
  refine kIf2 h (fun hb h => ?_) (fun hb h => ?_)
  refine wgo ?_
  repeat refine cj ?_
  obtain ⟨y34_3, hy34_3, h⟩ := bd h
  have e := novationseat_Deck_N.spec hy34_3
  try simp only [go_sem, List.map_set, rowsD_append, rowsD_cons, rowsD_nil, rowsD_set, rowsD_take, rowsD_drop, rowsD_replicate] at e
  refine xCall_of [] e ?_
  refine wgo ?_
  repeat refine cj ?_
  obtain ⟨y34_6, hy34_6, h⟩ := bd h
  have e := novationseat_Deck_N.spec hy34_6
  try simp only [go_sem, List.map_set, rowsD_append, rowsD_cons, rowsD_nil, rowsD_set, rowsD_take, rowsD_drop, rowsD_replicate] at e
  refine xCall_of [] e ?_
  obtain ⟨⟨hg34_11_0, hg34_11_1⟩, h⟩ := gd h
  obtain rfl := Option.some.inj h
  exact fin
  refine wgo ?_
  repeat refine cj ?_
  refine kIf2 h (fun hb h => ?_) (fun hb h => ?_)
  refine wgo ?_
  repeat refine cj ?_
  obtain ⟨y36_3, hy36_3, h⟩ := bd h
  have e := novationseat_Deck_N.spec hy36_3
  try simp only [go_sem, List.map_set, rowsD_append, rowsD_cons, rowsD_nil, rowsD_set, rowsD_take, rowsD_drop, rowsD_replicate] at e
  refine xCall_of [] e ?_
  refine wgo ?_
  repeat refine cj ?_
  obtain ⟨y36_6, hy36_6, h⟩ := bd h
  have e := novationseat_Deck_N.spec hy36_6
  try simp only [go_sem, List.map_set, rowsD_append, rowsD_cons, rowsD_nil, rowsD_set, rowsD_take, rowsD_drop, rowsD_replicate] at e
  refine xCall_of [] e ?_
  obtain rfl := Option.some.inj h
  exact fin
  refine wgo ?_
  repeat refine cj ?_
  obtain ⟨y37_2, hy37_2, h⟩ := bd h
  have e := novationseat_Deck_order.spec hy37_2
  try simp only [go_sem, List.map_set, rowsD_append, rowsD_cons, rowsD_nil, rowsD_set, rowsD_take, rowsD_drop, rowsD_replicate] at e
  refine xCall_of [] e ?_
  obtain rfl := Option.some.inj h
  exact fin
  refine wgo ?_
  repeat refine cj ?_
  refine kIf2 h (fun hb h => ?_) (fun hb h => ?_)
  refine wgo ?_
  repeat refine cj ?_
  refine kIf2 h (fun hb h => ?_) (fun hb h => ?_)
  obtain rfl := Option.some.inj h
  exact fin
  refine wgo ?_
  repeat refine cj ?_
  refine kIf2 h (fun hb h => ?_) (fun hb h => ?_)
  refine wgo ?_
  repeat refine cj ?_
  obtain ⟨y34_3, hy34_3, h⟩ := bd h
  have e := novationseat_Deck_N.spec hy34_3
  try simp only [go_sem, List.map_set, rowsD_append, rowsD_cons, rowsD_nil, rowsD_set, rowsD_take, rowsD_drop, rowsD_replicate] at e
  refine xCall_of [] e ?_
  refine wgo ?_
  repeat refine cj ?_
  obtain ⟨y34_6, hy34_6, h⟩ := bd h
  have e := novationseat_Deck_N.spec hy34_6
  try simp only [go_sem, List.map_set, rowsD_append, rowsD_cons, rowsD_nil, rowsD_set, rowsD_take, rowsD_drop, rowsD_replicate] at e
  refine xCall_of [] e ?_
  obtain ⟨⟨hg34_11_0, hg34_11_1⟩, h⟩ := gd h
  obtain rfl := Option.some.inj h
  exact fin
  refine wgo ?_
  repeat refine cj ?_
  refine kIf2 h (fun hb h => ?_) (fun hb h => ?_)
  refine wgo ?_
  repeat refine cj ?_
  obtain ⟨y36_3, hy36_3, h⟩ := bd h
  have e := novationseat_Deck_N.spec hy36_3
  try simp only [go_sem, List.map_set, rowsD_append, rowsD_cons, rowsD_nil, rowsD_set, rowsD_take, rowsD_drop, rowsD_replicate] at e
  refine xCall_of [] e ?_
  refine wgo ?_
  repeat refine cj ?_
  obtain ⟨y36_6, hy36_6, h⟩ := bd h
  have e := novationseat_Deck_N.spec hy36_6
  try simp only [go_sem, List.map_set, rowsD_append, rowsD_cons, rowsD_nil, rowsD_set, rowsD_take, rowsD_drop, rowsD_replicate] at e
  refine xCall_of [] e ?_
  obtain rfl := Option.some.inj h
  exact fin
  refine wgo ?_
  repeat refine cj ?_
  obtain ⟨y37_2, hy37_2, h⟩ := bd h
  have e := novationseat_Deck_order.spec hy37_2
  try simp only [go_sem, List.map_set, rowsD_append, rowsD_cons, rowsD_nil, rowsD_set, rowsD_take, rowsD_drop, rowsD_replicate] at e
  refine xCall_of [] e ?_
  obtain rfl := Option.some.inj h
  exact fin
  refine wgo ?_
  repeat refine cj ?_
  refine kIf2 h (fun hb h => ?_) (fun hb h => ?_)
  refine wgo ?_
  repeat refine cj ?_
  refine kIf2 h (fun hb h => ?_) (fun hb h => ?_)
  obtain rfl := Option.some.inj h
  exact fin
  refine wgo ?_
  repeat refine cj ?_
  refine kIf2 h (fun hb h => ?_) (fun hb h => ?_)
  refine wgo ?_
  repeat refine cj ?_
  obtain ⟨y34_3, hy34_3, h⟩ := bd h
  have e := novationseat_Deck_N.spec hy34_3
  try simp only [go_sem, List.map_set, rowsD_append, rowsD_cons, rowsD_nil, rowsD_set, rowsD_take, rowsD_drop, rowsD_replicate] at e
  refine xCall_of [] e ?_
  refine wgo ?_
  repeat refine cj ?_
  obtain ⟨y34_6, hy34_6, h⟩ := bd h
  have e := novationseat_Deck_N.spec hy34_6
  try simp only [go_sem, List.map_set, rowsD_append, rowsD_cons, rowsD_nil, rowsD_set, rowsD_take, rowsD_drop, rowsD_replicate] at e
  refine xCall_of [] e ?_
  obtain ⟨⟨hg34_11_0, hg34_11_1⟩, h⟩ := gd h
  obtain rfl := Option.some.inj h
  exact fin
  refine wgo ?_
  repeat refine cj ?_
  refine kIf2 h (fun hb h => ?_) (fun hb h => ?_)
  refine wgo ?_
  repeat refine cj ?_
  obtain ⟨y36_3, hy36_3, h⟩ := bd h
  have e := novationseat_Deck_N.spec hy36_3
  try simp only [go_sem, List.map_set, rowsD_append, rowsD_cons, rowsD_nil, rowsD_set, rowsD_take, rowsD_drop, rowsD_replicate] at e
  refine xCall_of [] e ?_
  refine wgo ?_
  repeat refine cj ?_
  obtain ⟨y36_6, hy36_6, h⟩ := bd h
  have e := novationseat_Deck_N.spec hy36_6
  try simp only [go_sem, List.map_set, rowsD_append, rowsD_cons, rowsD_nil, rowsD_set, rowsD_take, rowsD_drop, rowsD_replicate] at e
  refine xCall_of [] e ?_
  obtain rfl := Option.some.inj h
  exact fin
  refine wgo ?_
  repeat refine cj ?_
  obtain ⟨y37_2, hy37_2, h⟩ := bd h
  have e := novationseat_Deck_order.spec hy37_2
  try simp only [go_sem, List.map_set, rowsD_append, rowsD_cons, rowsD_nil, rowsD_set, rowsD_take, rowsD_drop, rowsD_replicate] at e
  refine xCall_of [] e ?_
  obtain rfl := Option.some.inj h
  exact fin
  refine wgo ?_
  repeat refine cj ?_
  refine kIf2 h (fun hb h => ?_) (fun hb h => ?_)
  obtain rfl := Option.some.inj h
  exact fin
  refine wgo ?_
  repeat refine cj ?_
  refine kIf2 h (fun hb h => ?_) (fun hb h => ?_)
  refine wgo ?_
  repeat refine cj ?_
  obtain ⟨y34_3, hy34_3, h⟩ := bd h
  have e := novationseat_Deck_N.spec hy34_3
  try simp only [go_sem, List.map_set, rowsD_append, rowsD_cons, rowsD_nil, rowsD_set, rowsD_take, rowsD_drop, rowsD_replicate] at e
  refine xCall_of [] e ?_
  refine wgo ?_
  repeat refine cj ?_
  obtain ⟨y34_6, hy34_6, h⟩ := bd h
  have e := novationseat_Deck_N.spec hy34_6
  try simp only [go_sem, List.map_set, rowsD_append, rowsD_cons, rowsD_nil, rowsD_set, rowsD_take, rowsD_drop, rowsD_replicate] at e
  refine xCall_of [] e ?_
  obtain ⟨⟨hg34_11_0, hg34_11_1⟩, h⟩ := gd h
  obtain rfl := Option.some.inj h
  exact fin
  refine wgo ?_
  repeat refine cj ?_
  refine kIf2 h (fun hb h => ?_) (fun hb h => ?_)
  refine wgo ?_
  repeat refine cj ?_
  obtain ⟨y36_3, hy36_3, h⟩ := bd h
  have e := novationseat_Deck_N.spec hy36_3
  try simp only [go_sem, List.map_set, rowsD_append, rowsD_cons, rowsD_nil, rowsD_set, rowsD_take, rowsD_drop, rowsD_replicate] at e
  refine xCall_of [] e ?_
  refine wgo ?_
  repeat refine cj ?_
  obtain ⟨y36_6, hy36_6, h⟩ := bd h
  have e := novationseat_Deck_N.spec hy36_6
  try simp only [go_sem, List.map_set, rowsD_append, rowsD_cons, rowsD_nil, rowsD_set, rowsD_take, rowsD_drop, rowsD_replicate] at e
  refine xCall_of [] e ?_
  obtain rfl := Option.some.inj h
  exact fin
  refine wgo ?_
  repeat refine cj ?_
  obtain ⟨y37_2, hy37_2, h⟩ := bd h
  have e := novationseat_Deck_order.spec hy37_2
  try simp only [go_sem, List.map_set, rowsD_append, rowsD_cons, rowsD_nil, rowsD_set, rowsD_take, rowsD_drop, rowsD_replicate] at e
  refine xCall_of [] e ?_
  obtain rfl := Option.some.inj h
  exact fin
  refine wgo ?_
  repeat refine cj ?_
  refine kIf2 h (fun hb h => ?_) (fun hb h => ?_)
  refine wgo ?_
  repeat refine cj ?_
  obtain ⟨y16_3, hy16_3, h⟩ := bd h
  have e := novationseat_Deck_Some.spec hy16_3
  try simp only [go_sem, List.map_set, rowsD_append, rowsD_cons, rowsD_nil, rowsD_set, rowsD_take, rowsD_drop, rowsD_replicate] at e
  refine xCall_of [] e ?_
  obtain rfl := Option.some.inj h
  exact fin
  refine wgo ?_
  repeat refine cj ?_
  refine kIf2 h (fun hb h => ?_) (fun hb h => ?_)
  refine wgo ?_
  repeat refine cj ?_
  obtain ⟨y18_3, hy18_3, h⟩ := bd h
  have e := novationseat_Deck_Some.spec hy18_3
  try simp only [go_sem, List.map_set, rowsD_append, rowsD_cons, rowsD_nil, rowsD_set, rowsD_take, rowsD_drop, rowsD_replicate] at e
  refine xCall_of [] e ?_
  obtain rfl := Option.some.inj h
  exact fin
  refine wgo ?_
  repeat refine cj ?_
  refine kIf2 h (fun hb h => ?_) (fun hb h => ?_)
  refine wgo ?_
  repeat refine cj ?_
  obtain ⟨y20_3, hy20_3, h⟩ := bd h
  have e := novationseat_Deck_N.spec hy20_3
  try simp only [go_sem, List.map_set, rowsD_append, rowsD_cons, rowsD_nil, rowsD_set, rowsD_take, rowsD_drop, rowsD_replicate] at e
  refine xCall_of [] e ?_
  obtain rfl := Option.some.inj h
  exact fin
  refine wgo ?_
  repeat refine cj ?_
  refine kIf2 h (fun hb h => ?_) (fun hb h => ?_)
  refine wgo ?_
  repeat refine cj ?_
  obtain ⟨y22_3, hy22_3, h⟩ := bd h
  have e := novationseat_Deck_mark.spec hy22_3
  try simp only [go_sem, List.map_set, rowsD_append, rowsD_cons, rowsD_nil, rowsD_set, rowsD_take, rowsD_drop, rowsD_replicate] at e
  refine xCall_of [] e ?_
  obtain rfl := Option.some.inj h
  exact fin
  refine wgo ?_
  repeat refine cj ?_
  refine kIf2 h (fun hb h => ?_) (fun hb h => ?_)
  refine wgo ?_
  repeat refine cj ?_
  obtain ⟨y24_2, hy24_2, h⟩ := bd h
  have e := novationseat_Deck_N.spec hy24_2
  try simp only [go_sem, List.map_set, rowsD_append, rowsD_cons, rowsD_nil, rowsD_set, rowsD_take, rowsD_drop, rowsD_replicate] at e
  refine xCall_of [] e ?_
  obtain rfl := Option.some.inj h
  exact fin
  refine wgo ?_
  repeat refine cj ?_
  refine kIf2 h (fun hb h => ?_) (fun hb h => ?_)
  obtain rfl := Option.some.inj h
  exact fin
  refine wgo ?_
  repeat refine cj ?_
  refine kIf2 h (fun hb h => ?_) (fun hb h => ?_)
  refine wgo ?_
  repeat refine cj ?_
  refine kIf2 h (fun hb h => ?_) (fun hb h => ?_)
  obtain rfl := Option.some.inj h
  exact fin
  refine wgo ?_
  repeat refine cj ?_
  refine kIf2 h (fun hb h => ?_) (fun hb h => ?_)
  refine wgo ?_
  repeat refine cj ?_
  obtain ⟨y34_3, hy34_3, h⟩ := bd h
  have e := novationseat_Deck_N.spec hy34_3
  try simp only [go_sem, List.map_set, rowsD_append, rowsD_cons, rowsD_nil, rowsD_set, rowsD_take, rowsD_drop, rowsD_replicate] at e
  refine xCall_of [] e ?_
  refine wgo ?_
  repeat refine cj ?_
  obtain ⟨y34_6, hy34_6, h⟩ := bd h
  have e := novationseat_Deck_N.spec hy34_6
  try simp only [go_sem, List.map_set, rowsD_append, rowsD_cons, rowsD_nil, rowsD_set, rowsD_take, rowsD_drop, rowsD_replicate] at e
  refine xCall_of [] e ?_
  obtain ⟨⟨hg34_11_0, hg34_11_1⟩, h⟩ := gd h
  obtain rfl := Option.some.inj h
  exact fin
  refine wgo ?_
  repeat refine cj ?_
  refine kIf2 h (fun hb h => ?_) (fun hb h => ?_)
  refine wgo ?_
  repeat refine cj ?_
  obtain ⟨y36_3, hy36_3, h⟩ := bd h
  have e := novationseat_Deck_N.spec hy36_3
  try simp only [go_sem, List.map_set, rowsD_append, rowsD_cons, rowsD_nil, rowsD_set, rowsD_take, rowsD_drop, rowsD_replicate] at e
  refine xCall_of [] e ?_
  refine wgo ?_
  repeat refine cj ?_
  obtain ⟨y36_6, hy36_6, h⟩ := bd h
  have e := novationseat_Deck_N.spec hy36_6
  try simp only [go_sem, List.map_set, rowsD_append, rowsD_cons, rowsD_nil, rowsD_set, rowsD_take, rowsD_drop, rowsD_replicate] at e
  refine xCall_of [] e ?_
  obtain rfl := Option.some.inj h
  exact fin
  refine wgo ?_
  repeat refine cj ?_
  obtain ⟨y37_2, hy37_2, h⟩ := bd h
  have e := novationseat_Deck_order.spec hy37_2
  try simp only [go_sem, List.map_set, rowsD_append, rowsD_cons, rowsD_nil, rowsD_set, rowsD_take, rowsD_drop, rowsD_replicate] at e
  refine xCall_of [] e ?_
  obtain rfl := Option.some.inj h
  exact fin
  refine wgo ?_
  repeat refine cj ?_
  refine kIf2 h (fun hb h => ?_) (fun hb h => ?_)
  refine wgo ?_
  repeat refine cj ?_
  refine kIf2 h (fun hb h => ?_) (fun hb h => ?_)
  obtain rfl := Option.some.inj h
  exact fin
  refine wgo ?_
  repeat refine cj ?_
  refine kIf2 h (fun hb h => ?_) (fun hb h => ?_)
  refine wgo ?_
  repeat refine cj ?_
  obtain ⟨y34_3, hy34_3, h⟩ := bd h
  have e := novationseat_Deck_N.spec hy34_3
  try simp only [go_sem, List.map_set, rowsD_append, rowsD_cons, rowsD_nil, rowsD_set, rowsD_take, rowsD_drop, rowsD_replicate] at e
  refine xCall_of [] e ?_
  refine wgo ?_
  repeat refine cj ?_
  obtain ⟨y34_6, hy34_6, h⟩ := bd h
  have e := novationseat_Deck_N.spec hy34_6
  try simp only [go_sem, List.map_set, rowsD_append, rowsD_cons, rowsD_nil, rowsD_set, rowsD_take, rowsD_drop, rowsD_replicate] at e
  refine xCall_of [] e ?_
  obtain ⟨⟨hg34_11_0, hg34_11_1⟩, h⟩ := gd h
  obtain rfl := Option.some.inj h
  exact fin
  refine wgo ?_
  repeat refine cj ?_
  refine kIf2 h (fun hb h => ?_) (fun hb h => ?_)
  refine wgo ?_
  repeat refine cj ?_
  obtain ⟨y36_3, hy36_3, h⟩ := bd h
  have e := novationseat_Deck_N.spec hy36_3
  try simp only [go_sem, List.map_set, rowsD_append, rowsD_cons, rowsD_nil, rowsD_set, rowsD_take, rowsD_drop, rowsD_replicate] at e
  refine xCall_of [] e ?_
  refine wgo ?_
  repeat refine cj ?_
  obtain ⟨y36_6, hy36_6, h⟩ := bd h
  have e := novationseat_Deck_N.spec hy36_6
  try simp only [go_sem, List.map_set, rowsD_append, rowsD_cons, rowsD_nil, rowsD_set, rowsD_take, rowsD_drop, rowsD_replicate] at e
  refine xCall_of [] e ?_
  obtain rfl := Option.some.inj h
  exact fin
  refine wgo ?_
  repeat refine cj ?_
  obtain ⟨y37_2, hy37_2, h⟩ := bd h
  have e := novationseat_Deck_order.spec hy37_2
  try simp only [go_sem, List.map_set, rowsD_append, rowsD_cons, rowsD_nil, rowsD_set, rowsD_take, rowsD_drop, rowsD_replicate] at e
  refine xCall_of [] e ?_
  obtain rfl := Option.some.inj h
  exact fin
  refine wgo ?_
  repeat refine cj ?_
  refine kIf2 h (fun hb h => ?_) (fun hb h => ?_)
  refine wgo ?_
  repeat refine cj ?_
  refine kIf2 h (fun hb h => ?_) (fun hb h => ?_)
  obtain rfl := Option.some.inj h
  exact fin
  refine wgo ?_
  repeat refine cj ?_
  refine kIf2 h (fun hb h => ?_) (fun hb h => ?_)
  refine wgo ?_
  repeat refine cj ?_
  obtain ⟨y34_3, hy34_3, h⟩ := bd h
  have e := novationseat_Deck_N.spec hy34_3
  try simp only [go_sem, List.map_set, rowsD_append, rowsD_cons, rowsD_nil, rowsD_set, rowsD_take, rowsD_drop, rowsD_replicate] at e
  refine xCall_of [] e ?_
  refine wgo ?_
  repeat refine cj ?_
  obtain ⟨y34_6, hy34_6, h⟩ := bd h
  have e := novationseat_Deck_N.spec hy34_6
  try simp only [go_sem, List.map_set, rowsD_append, rowsD_cons, rowsD_nil, rowsD_set, rowsD_take, rowsD_drop, rowsD_replicate] at e
  refine xCall_of [] e ?_
  obtain ⟨⟨hg34_11_0, hg34_11_1⟩, h⟩ := gd h
  obtain rfl := Option.some.inj h
  exact fin
  refine wgo ?_
  repeat refine cj ?_
  refine kIf2 h (fun hb h => ?_) (fun hb h => ?_)
  refine wgo ?_
  repeat refine cj ?_
  obtain ⟨y36_3, hy36_3, h⟩ := bd h
  have e := novationseat_Deck_N.spec hy36_3
  try simp only [go_sem, List.map_set, rowsD_append, rowsD_cons, rowsD_nil, rowsD_set, rowsD_take, rowsD_drop, rowsD_replicate] at e
  refine xCall_of [] e ?_
  refine wgo ?_
  repeat refine cj ?_
  obtain ⟨y36_6, hy36_6, h⟩ := bd h
  have e := novationseat_Deck_N.spec hy36_6
  try simp only [go_sem, List.map_set, rowsD_append, rowsD_cons, rowsD_nil, rowsD_set, rowsD_take, rowsD_drop, rowsD_replicate] at e
  refine xCall_of [] e ?_
  obtain rfl := Option.some.inj h
  exact fin
  refine wgo ?_
  repeat refine cj ?_
  obtain ⟨y37_2, hy37_2, h⟩ := bd h
  have e := novationseat_Deck_order.spec hy37_2
  try simp only [go_sem, List.map_set, rowsD_append, rowsD_cons, rowsD_nil, rowsD_set, rowsD_take, rowsD_drop, rowsD_replicate] at e
  refine xCall_of [] e ?_
  obtain rfl := Option.some.inj h
  exact fin
  refine wgo ?_
  repeat refine cj ?_
  refine kIf2 h (fun hb h => ?_) (fun hb h => ?_)
  refine wgo ?_
  repeat refine cj ?_
  refine kIf2 h (fun hb h => ?_) (fun hb h => ?_)
  obtain rfl := Option.some.inj h
  exact fin
  refine wgo ?_
  repeat refine cj ?_
  refine kIf2 h (fun hb h => ?_) (fun hb h => ?_)
  refine wgo ?_
  repeat refine cj ?_
  obtain ⟨y34_3, hy34_3, h⟩ := bd h
  have e := novationseat_Deck_N.spec hy34_3
  try simp only [go_sem, List.map_set, rowsD_append, rowsD_cons, rowsD_nil, rowsD_set, rowsD_take, rowsD_drop, rowsD_replicate] at e
  refine xCall_of [] e ?_
  refine wgo ?_
  repeat refine cj ?_
  obtain ⟨y34_6, hy34_6, h⟩ := bd h
  have e := novationseat_Deck_N.spec hy34_6
  try simp only [go_sem, List.map_set, rowsD_append, rowsD_cons, rowsD_nil, rowsD_set, rowsD_take, rowsD_drop, rowsD_replicate] at e
  refine xCall_of [] e ?_
  obtain ⟨⟨hg34_11_0, hg34_11_1⟩, h⟩ := gd h
  obtain rfl := Option.some.inj h
  exact fin
  refine wgo ?_
  repeat refine cj ?_
  refine kIf2 h (fun hb h => ?_) (fun hb h => ?_)
  refine wgo ?_
  repeat refine cj ?_
  obtain ⟨y36_3, hy36_3, h⟩ := bd h
  have e := novationseat_Deck_N.spec hy36_3
  try simp only [go_sem, List.map_set, rowsD_append, rowsD_cons, rowsD_nil, rowsD_set, rowsD_take, rowsD_drop, rowsD_replicate] at e
  refine xCall_of [] e ?_
  refine wgo ?_
  repeat refine cj ?_
  obtain ⟨y36_6, hy36_6, h⟩ := bd h
  have e := novationseat_Deck_N.spec hy36_6
  try simp only [go_sem, List.map_set, rowsD_append, rowsD_cons, rowsD_nil, rowsD_set, rowsD_take, rowsD_drop, rowsD_replicate] at e
  refine xCall_of [] e ?_
  obtain rfl := Option.some.inj h
  exact fin
  refine wgo ?_
  repeat refine cj ?_
  obtain ⟨y37_2, hy37_2, h⟩ := bd h
  have e := novationseat_Deck_order.spec hy37_2
  try simp only [go_sem, List.map_set, rowsD_append, rowsD_cons, rowsD_nil, rowsD_set, rowsD_take, rowsD_drop, rowsD_replicate] at e
  refine xCall_of [] e ?_
  obtain rfl := Option.some.inj h
  exact fin
  refine wgo ?_
  repeat refine cj ?_
  refine kIf2 h (fun hb h => ?_) (fun hb h => ?_)
  obtain rfl := Option.some.inj h
  exact fin
  refine wgo ?_
  repeat refine cj ?_
  refine kIf2 h (fun hb h => ?_) (fun hb h => ?_)
  refine wgo ?_
  repeat refine cj ?_
  obtain ⟨y34_3, hy34_3, h⟩ := bd h
  have e := novationseat_Deck_N.spec hy34_3
  try simp only [go_sem, List.map_set, rowsD_append, rowsD_cons, rowsD_nil, rowsD_set, rowsD_take, rowsD_drop, rowsD_replicate] at e
  refine xCall_of [] e ?_
  refine wgo ?_
  repeat refine cj ?_
  obtain ⟨y34_6, hy34_6, h⟩ := bd h
  have e := novationseat_Deck_N.spec hy34_6
  try simp only [go_sem, List.map_set, rowsD_append, rowsD_cons, rowsD_nil, rowsD_set, rowsD_take, rowsD_drop, rowsD_replicate] at e
  refine xCall_of [] e ?_
  obtain ⟨⟨hg34_11_0, hg34_11_1⟩, h⟩ := gd h
  obtain rfl := Option.some.inj h
  exact fin
  refine wgo ?_
  repeat refine cj ?_
  refine kIf2 h (fun hb h => ?_) (fun hb h => ?_)
  refine wgo ?_
  repeat refine cj ?_
  obtain ⟨y36_3, hy36_3, h⟩ := bd h
  have e := novationseat_Deck_N.spec hy36_3
  try simp only [go_sem, List.map_set, rowsD_append, rowsD_cons, rowsD_nil, rowsD_set, rowsD_take, rowsD_drop, rowsD_replicate] at e
  refine xCall_of [] e ?_
  refine wgo ?_
  repeat refine cj ?_
  obtain ⟨y36_6, hy36_6, h⟩ := bd h
  have e := novationseat_Deck_N.spec hy36_6
  try simp only [go_sem, List.map_set, rowsD_append, rowsD_cons, rowsD_nil, rowsD_set, rowsD_take, rowsD_drop, rowsD_replicate] at e
  refine xCall_of [] e ?_
  obtain rfl := Option.some.inj h
  exact fin
  refine wgo ?_
  repeat refine cj ?_
  obtain ⟨y37_2, hy37_2, h⟩ := bd h
  have e := novationseat_Deck_order.spec hy37_2
  try simp only [go_sem, List.map_set, rowsD_append, rowsD_cons, rowsD_nil, rowsD_set, rowsD_take, rowsD_drop, rowsD_replicate] at e
  refine xCall_of [] e ?_
  obtain rfl := Option.some.inj h
  exact fin
  refine wgo ?_
  repeat refine cj ?_
  refine kIf2 h (fun hb h => ?_) (fun hb h => ?_)
  obtain rfl := Option.some.inj h
  exact fin
  refine wgo ?_
  repeat refine cj ?_
  refine kIf2 h (fun hb h => ?_) (fun hb h => ?_)
  refine wgo ?_
  repeat refine cj ?_
  obtain ⟨y10_4, hy10_4, h⟩ := bd h
  have e := novationseat_Deck_N.spec hy10_4
  try simp only [go_sem, List.map_set, rowsD_append, rowsD_cons, rowsD_nil, rowsD_set, rowsD_take, rowsD_drop, rowsD_replicate] at e
  refine xCall_of [] e ?_
  obtain rfl := Option.some.inj h
  exact fin
  refine wgo ?_
  repeat refine cj ?_
  refine kIf2 h (fun hb h => ?_) (fun hb h => ?_)
  refine wgo ?_
  repeat refine cj ?_
  refine kIf2 h (fun hb h => ?_) (fun hb h => ?_)
  refine wgo ?_
  repeat refine cj ?_
  obtain ⟨y13_3, hy13_3, h⟩ := bd h
  have e := novationseat_Deck_Some.spec hy13_3
  try simp only [go_sem, List.map_set, rowsD_append, rowsD_cons, rowsD_nil, rowsD_set, rowsD_take, rowsD_drop, rowsD_replicate] at e
  refine xCall_of [] e ?_
  obtain rfl := Option.some.inj h
  exact fin
  refine wgo ?_
  repeat refine cj ?_
  refine kIf2 h (fun hb h => ?_) (fun hb h => ?_)
  refine wgo ?_
  repeat refine cj ?_
  refine kIf2 h (fun hb h => ?_) (fun hb h => ?_)
  refine wgo ?_
  repeat refine cj ?_
  obtain ⟨y16_3, hy16_3, h⟩ := bd h
  have e := novationseat_Deck_Some.spec hy16_3
  try simp only [go_sem, List.map_set, rowsD_append, rowsD_cons, rowsD_nil, rowsD_set, rowsD_take, rowsD_drop, rowsD_replicate] at e
  refine xCall_of [] e ?_
  obtain rfl := Option.some.inj h
  exact fin
  refine wgo ?_
  repeat refine cj ?_
  refine kIf2 h (fun hb h => ?_) (fun hb h => ?_)
  refine wgo ?_
  repeat refine cj ?_
  obtain ⟨y18_3, hy18_3, h⟩ := bd h
  have e := novationseat_Deck_Some.spec hy18_3
  try simp only [go_sem, List.map_set, rowsD_append, rowsD_cons, rowsD_nil, rowsD_set, rowsD_take, rowsD_drop, rowsD_replicate] at e
  refine xCall_of [] e ?_
  obtain rfl := Option.some.inj h
  exact fin
  refine wgo ?_
  repeat refine cj ?_
  refine kIf2 h (fun hb h => ?_) (fun hb h => ?_)
  refine wgo ?_
  repeat refine cj ?_
  obtain ⟨y20_3, hy20_3, h⟩ := bd h
  have e := novationseat_Deck_N.spec hy20_3
  try simp only [go_sem, List.map_set, rowsD_append, rowsD_cons, rowsD_nil, rowsD_set, rowsD_take, rowsD_drop, rowsD_replicate] at e
  refine xCall_of [] e ?_
  obtain rfl := Option.some.inj h
  exact fin
  refine wgo ?_
  repeat refine cj ?_
  refine kIf2 h (fun hb h => ?_) (fun hb h => ?_)
  refine wgo ?_
  repeat refine cj ?_
  obtain ⟨y22_3, hy22_3, h⟩ := bd h
  have e := novationseat_Deck_mark.spec hy22_3
  try simp only [go_sem, List.map_set, rowsD_append, rowsD_cons, rowsD_nil, rowsD_set, rowsD_take, rowsD_drop, rowsD_replicate] at e
  refine xCall_of [] e ?_
  obtain rfl := Option.some.inj h
  exact fin
  refine wgo ?_
  repeat refine cj ?_
  refine kIf2 h (fun hb h => ?_) (fun hb h => ?_)
  refine wgo ?_
  repeat refine cj ?_
  obtain ⟨y24_2, hy24_2, h⟩ := bd h
  have e := novationseat_Deck_N.spec hy24_2
  try simp only [go_sem, List.map_set, rowsD_append, rowsD_cons, rowsD_nil, rowsD_set, rowsD_take, rowsD_drop, rowsD_replicate] at e
  refine xCall_of [] e ?_
  obtain rfl := Option.some.inj h
  exact fin
  refine wgo ?_
  repeat refine cj ?_
  refine kIf2 h (fun hb h => ?_) (fun hb h => ?_)
  obtain rfl := Option.some.inj h
  exact fin
  refine wgo ?_
  repeat refine cj ?_
  refine kIf2 h (fun hb h => ?_) (fun hb h => ?_)
  refine wgo ?_
  repeat refine cj ?_
  refine kIf2 h (fun hb h => ?_) (fun hb h => ?_)
  obtain rfl := Option.some.inj h
  exact fin
  refine wgo ?_
  repeat refine cj ?_
  refine kIf2 h (fun hb h => ?_) (fun hb h => ?_)
  refine wgo ?_
  repeat refine cj ?_
  obtain ⟨y34_3, hy34_3, h⟩ := bd h
  have e := novationseat_Deck_N.spec hy34_3
  try simp only [go_sem, List.map_set, rowsD_append, rowsD_cons, rowsD_nil, rowsD_set, rowsD_take, rowsD_drop, rowsD_replicate] at e
  refine xCall_of [] e ?_
  refine wgo ?_
  repeat refine cj ?_
  obtain ⟨y34_6, hy34_6, h⟩ := bd h
  have e := novationseat_Deck_N.spec hy34_6
  try simp only [go_sem, List.map_set, rowsD_append, rowsD_cons, rowsD_nil, rowsD_set, rowsD_take, rowsD_drop, rowsD_replicate] at e
  refine xCall_of [] e ?_
  obtain ⟨⟨hg34_11_0, hg34_11_1⟩, h⟩ := gd h
  obtain rfl := Option.some.inj h
  exact fin
  refine wgo ?_
  repeat refine cj ?_
  refine kIf2 h (fun hb h => ?_) (fun hb h => ?_)
  refine wgo ?_
  repeat refine cj ?_
  obtain ⟨y36_3, hy36_3, h⟩ := bd h
  have e := novationseat_Deck_N.spec hy36_3
  try simp only [go_sem, List.map_set, rowsD_append, rowsD_cons, rowsD_nil, rowsD_set, rowsD_take, rowsD_drop, rowsD_replicate] at e
  refine xCall_of [] e ?_
  refine wgo ?_
  repeat refine cj ?_
  obtain ⟨y36_6, hy36_6, h⟩ := bd h
  have e := novationseat_Deck_N.spec hy36_6
  try simp only [go_sem, List.map_set, rowsD_append, rowsD_cons, rowsD_nil, rowsD_set, rowsD_take, rowsD_drop, rowsD_replicate] at e
  refine xCall_of [] e ?_
  obtain rfl := Option.some.inj h
  exact fin
  refine wgo ?_
  repeat refine cj ?_
  obtain ⟨y37_2, hy37_2, h⟩ := bd h
  have e := novationseat_Deck_order.spec hy37_2
  try simp only [go_sem, List.map_set, rowsD_append, rowsD_cons, rowsD_nil, rowsD_set, rowsD_take, rowsD_drop, rowsD_replicate] at e
  refine xCall_of [] e ?_
  obtain rfl := Option.some.inj h
  exact fin
  refine wgo ?_
  repeat refine cj ?_
  refine kIf2 h (fun hb h => ?_) (fun hb h => ?_)
  refine wgo ?_
  repeat refine cj ?_
  refine kIf2 h (fun hb h => ?_) (fun hb h => ?_)
  obtain rfl := Option.some.inj h
  exact fin
  refine wgo ?_
  repeat refine cj ?_
  refine kIf2 h (fun hb h => ?_) (fun hb h => ?_)
  refine wgo ?_
  repeat refine cj ?_
  obtain ⟨y34_3, hy34_3, h⟩ := bd h
  have e := novationseat_Deck_N.spec hy34_3
  try simp only [go_sem, List.map_set, rowsD_append, rowsD_cons, rowsD_nil, rowsD_set, rowsD_take, rowsD_drop, rowsD_replicate] at e
  refine xCall_of [] e ?_
  refine wgo ?_
  repeat refine cj ?_
  obtain ⟨y34_6, hy34_6, h⟩ := bd h
  have e := novationseat_Deck_N.spec hy34_6
  try simp only [go_sem, List.map_set, rowsD_append, rowsD_cons, rowsD_nil, rowsD_set, rowsD_take, rowsD_drop, rowsD_replicate] at e
  refine xCall_of [] e ?_
  obtain ⟨⟨hg34_11_0, hg34_11_1⟩, h⟩ := gd h
  obtain rfl := Option.some.inj h
  exact fin
  refine wgo ?_
  repeat refine cj ?_
  refine kIf2 h (fun hb h => ?_) (fun hb h => ?_)
  refine wgo ?_
  repeat refine cj ?_
  obtain ⟨y36_3, hy36_3, h⟩ := bd h
  have e := novationseat_Deck_N.spec hy36_3
  try simp only [go_sem, List.map_set, rowsD_append, rowsD_cons, rowsD_nil, rowsD_set, rowsD_take, rowsD_drop, rowsD_replicate] at e
  refine xCall_of [] e ?_
  refine wgo ?_
  repeat refine cj ?_
  obtain ⟨y36_6, hy36_6, h⟩ := bd h
  have e := novationseat_Deck_N.spec hy36_6
  try simp only [go_sem, List.map_set, rowsD_append, rowsD_cons, rowsD_nil, rowsD_set, rowsD_take, rowsD_drop, rowsD_replicate] at e
  refine xCall_of [] e ?_
  obtain rfl := Option.some.inj h
  exact fin
  refine wgo ?_
  repeat refine cj ?_
  obtain ⟨y37_2, hy37_2, h⟩ := bd h
  have e := novationseat_Deck_order.spec hy37_2
  try simp only [go_sem, List.map_set, rowsD_append, rowsD_cons, rowsD_nil, rowsD_set, rowsD_take, rowsD_drop, rowsD_replicate] at e
  refine xCall_of [] e ?_
  obtain rfl := Option.some.inj h
  exact fin
  refine wgo ?_
  repeat refine cj ?_
  refine kIf2 h (fun hb h => ?_) (fun hb h => ?_)
  refine wgo ?_
  repeat refine cj ?_
  refine kIf2 h (fun hb h => ?_) (fun hb h => ?_)
  obtain rfl := Option.some.inj h
  exact fin
  refine wgo ?_
  repeat refine cj ?_
  refine kIf2 h (fun hb h => ?_) (fun hb h => ?_)
  refine wgo ?_
  repeat refine cj ?_
  obtain ⟨y34_3, hy34_3, h⟩ := bd h
  have e := novationseat_Deck_N.spec hy34_3
  try simp only [go_sem, List.map_set, rowsD_append, rowsD_cons, rowsD_nil, rowsD_set, rowsD_take, rowsD_drop, rowsD_replicate] at e
  refine xCall_of [] e ?_
  refine wgo ?_
  repeat refine cj ?_
  obtain ⟨y34_6, hy34_6, h⟩ := bd h
  have e := novationseat_Deck_N.spec hy34_6
  try simp only [go_sem, List.map_set, rowsD_append, rowsD_cons, rowsD_nil, rowsD_set, rowsD_take, rowsD_drop, rowsD_replicate] at e
  refine xCall_of [] e ?_
  obtain ⟨⟨hg34_11_0, hg34_11_1⟩, h⟩ := gd h
  obtain rfl := Option.some.inj h
  exact fin
  refine wgo ?_
  repeat refine cj ?_
  refine kIf2 h (fun hb h => ?_) (fun hb h => ?_)
  refine wgo ?_
  repeat refine cj ?_
  obtain ⟨y36_3, hy36_3, h⟩ := bd h
  have e := novationseat_Deck_N.spec hy36_3
  try simp only [go_sem, List.map_set, rowsD_append, rowsD_cons, rowsD_nil, rowsD_set, rowsD_take, rowsD_drop, rowsD_replicate] at e
  refine xCall_of [] e ?_
  refine wgo ?_
  repeat refine cj ?_
  obtain ⟨y36_6, hy36_6, h⟩ := bd h
  have e := novationseat_Deck_N.spec hy36_6
  try simp only [go_sem, List.map_set, rowsD_append, rowsD_cons, rowsD_nil, rowsD_set, rowsD_take, rowsD_drop, rowsD_replicate] at e
  refine xCall_of [] e ?_
  obtain rfl := Option.some.inj h
  exact fin
  refine wgo ?_
  repeat refine cj ?_
  obtain ⟨y37_2, hy37_2, h⟩ := bd h
  have e := novationseat_Deck_order.spec hy37_2
  try simp only [go_sem, List.map_set, rowsD_append, rowsD_cons, rowsD_nil, rowsD_set, rowsD_take, rowsD_drop, rowsD_replicate] at e
  refine xCall_of [] e ?_
  obtain rfl := Option.some.inj h
  exact fin
  refine wgo ?_
  repeat refine cj ?_
  refine kIf2 h (fun hb h => ?_) (fun hb h => ?_)
  refine wgo ?_
  repeat refine cj ?_
  refine kIf2 h (fun hb h => ?_) (fun hb h => ?_)
  obtain rfl := Option.some.inj h
  exact fin
  refine wgo ?_
  repeat refine cj ?_
  refine kIf2 h (fun hb h => ?_) (fun hb h => ?_)
  refine wgo ?_
  repeat refine cj ?_
  obtain ⟨y34_3, hy34_3, h⟩ := bd h
  have e := novationseat_Deck_N.spec hy34_3
  try simp only [go_sem, List.map_set, rowsD_append, rowsD_cons, rowsD_nil, rowsD_set, rowsD_take, rowsD_drop, rowsD_replicate] at e
  refine xCall_of [] e ?_
  refine wgo ?_
  repeat refine cj ?_
  obtain ⟨y34_6, hy34_6, h⟩ := bd h
  have e := novationseat_Deck_N.spec hy34_6
  try simp only [go_sem, List.map_set, rowsD_append, rowsD_cons, rowsD_nil, rowsD_set, rowsD_take, rowsD_drop, rowsD_replicate] at e
  refine xCall_of [] e ?_
  obtain ⟨⟨hg34_11_0, hg34_11_1⟩, h⟩ := gd h
  obtain rfl := Option.some.inj h
  exact fin
  refine wgo ?_
  repeat refine cj ?_
  refine kIf2 h (fun hb h => ?_) (fun hb h => ?_)
  refine wgo ?_
  repeat refine cj ?_
  obtain ⟨y36_3, hy36_3, h⟩ := bd h
  have e := novationseat_Deck_N.spec hy36_3
  try simp only [go_sem, List.map_set, rowsD_append, rowsD_cons, rowsD_nil, rowsD_set, rowsD_take, rowsD_drop, rowsD_replicate] at e
  refine xCall_of [] e ?_
  refine wgo ?_
  repeat refine cj ?_
  obtain ⟨y36_6, hy36_6, h⟩ := bd h
  have e := novationseat_Deck_N.spec hy36_6
  try simp only [go_sem, List.map_set, rowsD_append, rowsD_cons, rowsD_nil, rowsD_set, rowsD_take, rowsD_drop, rowsD_replicate] at e
  refine xCall_of [] e ?_
  obtain rfl := Option.some.inj h
  exact fin
  refine wgo ?_
  repeat refine cj ?_
  obtain ⟨y37_2, hy37_2, h⟩ := bd h
  have e := novationseat_Deck_order.spec hy37_2
  try simp only [go_sem, List.map_set, rowsD_append, rowsD_cons, rowsD_nil, rowsD_set, rowsD_take, rowsD_drop, rowsD_replicate] at e
  refine xCall_of [] e ?_
  obtain rfl := Option.some.inj h
  exact fin
  refine wgo ?_
  repeat refine cj ?_
  refine kIf2 h (fun hb h => ?_) (fun hb h => ?_)
  obtain rfl := Option.some.inj h
  exact fin
  refine wgo ?_
  repeat refine cj ?_
  refine kIf2 h (fun hb h => ?_) (fun hb h => ?_)
  refine wgo ?_
  repeat refine cj ?_
  obtain ⟨y34_3, hy34_3, h⟩ := bd h
  have e := novationseat_Deck_N.spec hy34_3
  try simp only [go_sem, List.map_set, rowsD_append, rowsD_cons, rowsD_nil, rowsD_set, rowsD_take, rowsD_drop, rowsD_replicate] at e
  refine xCall_of [] e ?_
  refine wgo ?_
  repeat refine cj ?_
  obtain ⟨y34_6, hy34_6, h⟩ := bd h
  have e := novationseat_Deck_N.spec hy34_6
  try simp only [go_sem, List.map_set, rowsD_append, rowsD_cons, rowsD_nil, rowsD_set, rowsD_take, rowsD_drop, rowsD_replicate] at e
  refine xCall_of [] e ?_
  obtain ⟨⟨hg34_11_0, hg34_11_1⟩, h⟩ := gd h
  obtain rfl := Option.some.inj h
  exact fin
  refine wgo ?_
  repeat refine cj ?_
  refine kIf2 h (fun hb h => ?_) (fun hb h => ?_)
  refine wgo ?_
  repeat refine cj ?_
  obtain ⟨y36_3, hy36_3, h⟩ := bd h
  have e := novationseat_Deck_N.spec hy36_3
  try simp only [go_sem, List.map_set, rowsD_append, rowsD_cons, rowsD_nil, rowsD_set, rowsD_take, rowsD_drop, rowsD_replicate] at e
  refine xCall_of [] e ?_
  refine wgo ?_
  repeat refine cj ?_
  obtain ⟨y36_6, hy36_6, h⟩ := bd h
  have e := novationseat_Deck_N.spec hy36_6
  try simp only [go_sem, List.map_set, rowsD_append, rowsD_cons, rowsD_nil, rowsD_set, rowsD_take, rowsD_drop, rowsD_replicate] at e
  refine xCall_of [] e ?_
  obtain rfl := Option.some.inj h
  exact fin
  refine wgo ?_
  repeat refine cj ?_
  obtain ⟨y37_2, hy37_2, h⟩ := bd h
  have e := novationseat_Deck_order.spec hy37_2
  try simp only [go_sem, List.map_set, rowsD_append, rowsD_cons, rowsD_nil, rowsD_set, rowsD_take, rowsD_drop, rowsD_replicate] at e
  refine xCall_of [] e ?_
  obtain rfl := Option.some.inj h
  exact fin
  refine wgo ?_
  repeat refine cj ?_
  refine kIf2 h (fun hb h => ?_) (fun hb h => ?_)
  refine wgo ?_
  repeat refine cj ?_
  obtain ⟨y16_3, hy16_3, h⟩ := bd h
  have e := novationseat_Deck_Some.spec hy16_3
  try simp only [go_sem, List.map_set, rowsD_append, rowsD_cons, rowsD_nil, rowsD_set, rowsD_take, rowsD_drop, rowsD_replicate] at e
  refine xCall_of [] e ?_
  obtain rfl := Option.some.inj h
  exact fin
  refine wgo ?_
  repeat refine cj ?_
  refine kIf2 h (fun hb h => ?_) (fun hb h => ?_)
  refine wgo ?_
  repeat refine cj ?_
  obtain ⟨y18_3, hy18_3, h⟩ := bd h
  have e := novationseat_Deck_Some.spec hy18_3
  try simp only [go_sem, List.map_set, rowsD_append, rowsD_cons, rowsD_nil, rowsD_set, rowsD_take, rowsD_drop, rowsD_replicate] at e
  refine xCall_of [] e ?_
  obtain rfl := Option.some.inj h
  exact fin
  refine wgo ?_
  repeat refine cj ?_
  refine kIf2 h (fun hb h => ?_) (fun hb h => ?_)
  refine wgo ?_
  repeat refine cj ?_
  obtain ⟨y20_3, hy20_3, h⟩ := bd h
  have e := novationseat_Deck_N.spec hy20_3
  try simp only [go_sem, List.map_set, rowsD_append, rowsD_cons, rowsD_nil, rowsD_set, rowsD_take, rowsD_drop, rowsD_replicate] at e
  refine xCall_of [] e ?_
  obtain rfl := Option.some.inj h
  exact fin
  refine wgo ?_
  repeat refine cj ?_
  refine kIf2 h (fun hb h => ?_) (fun hb h => ?_)
  refine wgo ?_
  repeat refine cj ?_
  obtain ⟨y22_3, hy22_3, h⟩ := bd h
  have e := novationseat_Deck_mark.spec hy22_3
  try simp only [go_sem, List.map_set, rowsD_append, rowsD_cons, rowsD_nil, rowsD_set, rowsD_take, rowsD_drop, rowsD_replicate] at e
  refine xCall_of [] e ?_
  obtain rfl := Option.some.inj h
  exact fin
  refine wgo ?_
  repeat refine cj ?_
  refine kIf2 h (fun hb h => ?_) (fun hb h => ?_)
  refine wgo ?_
  repeat refine cj ?_
  obtain ⟨y24_2, hy24_2, h⟩ := bd h
  have e := novationseat_Deck_N.spec hy24_2
  try simp only [go_sem, List.map_set, rowsD_append, rowsD_cons, rowsD_nil, rowsD_set, rowsD_take, rowsD_drop, rowsD_replicate] at e
  refine xCall_of [] e ?_
  obtain rfl := Option.some.inj h
  exact fin
  refine wgo ?_
  repeat refine cj ?_
  refine kIf2 h (fun hb h => ?_) (fun hb h => ?_)
  obtain rfl := Option.some.inj h
  exact fin
  refine wgo ?_
  repeat refine cj ?_
  refine kIf2 h (fun hb h => ?_) (fun hb h => ?_)
  refine wgo ?_
  repeat refine cj ?_
  refine kIf2 h (fun hb h => ?_) (fun hb h => ?_)
  obtain rfl := Option.some.inj h
  exact fin
  refine wgo ?_
  repeat refine cj ?_
  refine kIf2 h (fun hb h => ?_) (fun hb h => ?_)
  refine wgo ?_
  repeat refine cj ?_
  obtain ⟨y34_3, hy34_3, h⟩ := bd h
  have e := novationseat_Deck_N.spec hy34_3
  try simp only [go_sem, List.map_set, rowsD_append, rowsD_cons, rowsD_nil, rowsD_set, rowsD_take, rowsD_drop, rowsD_replicate] at e
  refine xCall_of [] e ?_
  refine wgo ?_
  repeat refine cj ?_
  obtain ⟨y34_6, hy34_6, h⟩ := bd h
  have e := novationseat_Deck_N.spec hy34_6
  try simp only [go_sem, List.map_set, rowsD_append, rowsD_cons, rowsD_nil, rowsD_set, rowsD_take, rowsD_drop, rowsD_replicate] at e
  refine xCall_of [] e ?_
  obtain ⟨⟨hg34_11_0, hg34_11_1⟩, h⟩ := gd h
  obtain rfl := Option.some.inj h
  exact fin
  refine wgo ?_
  repeat refine cj ?_
  refine kIf2 h (fun hb h => ?_) (fun hb h => ?_)
  refine wgo ?_
  repeat refine cj ?_
  obtain ⟨y36_3, hy36_3, h⟩ := bd h
  have e := novationseat_Deck_N.spec hy36_3
  try simp only [go_sem, List.map_set, rowsD_append, rowsD_cons, rowsD_nil, rowsD_set, rowsD_take, rowsD_drop, rowsD_replicate] at e
  refine xCall_of [] e ?_
  refine wgo ?_
  repeat refine cj ?_
  obtain ⟨y36_6, hy36_6, h⟩ := bd h
  have e := novationseat_Deck_N.spec hy36_6
  try simp only [go_sem, List.map_set, rowsD_append, rowsD_cons, rowsD_nil, rowsD_set, rowsD_take, rowsD_drop, rowsD_replicate] at e
  refine xCall_of [] e ?_
  obtain rfl := Option.some.inj h
  exact fin
  refine wgo ?_
  repeat refine cj ?_
  obtain ⟨y37_2, hy37_2, h⟩ := bd h
  have e := novationseat_Deck_order.spec hy37_2
  try simp only [go_sem, List.map_set, rowsD_append, rowsD_cons, rowsD_nil, rowsD_set, rowsD_take, rowsD_drop, rowsD_replicate] at e
  refine xCall_of [] e ?_
  obtain rfl := Option.some.inj h
  exact fin
  refine wgo ?_
  repeat refine cj ?_
  refine kIf2 h (fun hb h => ?_) (fun hb h => ?_)
  refine wgo ?_
  repeat refine cj ?_
  refine kIf2 h (fun hb h => ?_) (fun hb h => ?_)
  obtain rfl := Option.some.inj h
  exact fin
  refine wgo ?_
  repeat refine cj ?_
  refine kIf2 h (fun hb h => ?_) (fun hb h => ?_)
  refine wgo ?_
  repeat refine cj ?_
  obtain ⟨y34_3, hy34_3, h⟩ := bd h
  have e := novationseat_Deck_N.spec hy34_3
  try simp only [go_sem, List.map_set, rowsD_append, rowsD_cons, rowsD_nil, rowsD_set, rowsD_take, rowsD_drop, rowsD_replicate] at e
  refine xCall_of [] e ?_
  refine wgo ?_
  repeat refine cj ?_
  obtain ⟨y34_6, hy34_6, h⟩ := bd h
  have e := novationseat_Deck_N.spec hy34_6
  try simp only [go_sem, List.map_set, rowsD_append, rowsD_cons, rowsD_nil, rowsD_set, rowsD_take, rowsD_drop, rowsD_replicate] at e
  refine xCall_of [] e ?_
  obtain ⟨⟨hg34_11_0, hg34_11_1⟩, h⟩ := gd h
  obtain rfl := Option.some.inj h
  exact fin
  refine wgo ?_
  repeat refine cj ?_
  refine kIf2 h (fun hb h => ?_) (fun hb h => ?_)
  refine wgo ?_
  repeat refine cj ?_
  obtain ⟨y36_3, hy36_3, h⟩ := bd h
  have e := novationseat_Deck_N.spec hy36_3
  try simp only [go_sem, List.map_set, rowsD_append, rowsD_cons, rowsD_nil, rowsD_set, rowsD_take, rowsD_drop, rowsD_replicate] at e
  refine xCall_of [] e ?_
  refine wgo ?_
  repeat refine cj ?_
  obtain ⟨y36_6, hy36_6, h⟩ := bd h
  have e := novationseat_Deck_N.spec hy36_6
  try simp only [go_sem, List.map_set, rowsD_append, rowsD_cons, rowsD_nil, rowsD_set, rowsD_take, rowsD_drop, rowsD_replicate] at e
  refine xCall_of [] e ?_
  obtain rfl := Option.some.inj h
  exact fin
  refine wgo ?_
  repeat refine cj ?_
  obtain ⟨y37_2, hy37_2, h⟩ := bd h
  have e := novationseat_Deck_order.spec hy37_2
  try simp only [go_sem, List.map_set, rowsD_append, rowsD_cons, rowsD_nil, rowsD_set, rowsD_take, rowsD_drop, rowsD_replicate] at e
  refine xCall_of [] e ?_
  obtain rfl := Option.some.inj h
  exact fin
  refine wgo ?_
  repeat refine cj ?_
  refine kIf2 h (fun hb h => ?_) (fun hb h => ?_)
  refine wgo ?_
  repeat refine cj ?_
  refine kIf2 h (fun hb h => ?_) (fun hb h => ?_)
  obtain rfl := Option.some.inj h
  exact fin
  refine wgo ?_
  repeat refine cj ?_
  refine kIf2 h (fun hb h => ?_) (fun hb h => ?_)
  refine wgo ?_
  repeat refine cj ?_
  obtain ⟨y34_3, hy34_3, h⟩ := bd h
  have e := novationseat_Deck_N.spec hy34_3
  try simp only [go_sem, List.map_set, rowsD_append, rowsD_cons, rowsD_nil, rowsD_set, rowsD_take, rowsD_drop, rowsD_replicate] at e
  refine xCall_of [] e ?_
  refine wgo ?_
  repeat refine cj ?_
  obtain ⟨y34_6, hy34_6, h⟩ := bd h
  have e := novationseat_Deck_N.spec hy34_6
  try simp only [go_sem, List.map_set, rowsD_append, rowsD_cons, rowsD_nil, rowsD_set, rowsD_take, rowsD_drop, rowsD_replicate] at e
  refine xCall_of [] e ?_
  obtain ⟨⟨hg34_11_0, hg34_11_1⟩, h⟩ := gd h
  obtain rfl := Option.some.inj h
  exact fin
  refine wgo ?_
  repeat refine cj ?_
  refine kIf2 h (fun hb h => ?_) (fun hb h => ?_)
  refine wgo ?_
  repeat refine cj ?_
  obtain ⟨y36_3, hy36_3, h⟩ := bd h
  have e := novationseat_Deck_N.spec hy36_3
  try simp only [go_sem, List.map_set, rowsD_append, rowsD_cons, rowsD_nil, rowsD_set, rowsD_take, rowsD_drop, rowsD_replicate] at e
  refine xCall_of [] e ?_
  refine wgo ?_
  repeat refine cj ?_
  obtain ⟨y36_6, hy36_6, h⟩ := bd h
  have e := novationseat_Deck_N.spec hy36_6
  try simp only [go_sem, List.map_set, rowsD_append, rowsD_cons, rowsD_nil, rowsD_set, rowsD_take, rowsD_drop, rowsD_replicate] at e
  refine xCall_of [] e ?_
  obtain rfl := Option.some.inj h
  exact fin
  refine wgo ?_
  repeat refine cj ?_
  obtain ⟨y37_2, hy37_2, h⟩ := bd h
  have e := novationseat_Deck_order.spec hy37_2
  try simp only [go_sem, List.map_set, rowsD_append, rowsD_cons, rowsD_nil, rowsD_set, rowsD_take, rowsD_drop, rowsD_replicate] at e
  refine xCall_of [] e ?_
  obtain rfl := Option.some.inj h
  exact fin
  refine wgo ?_
  repeat refine cj ?_
  refine kIf2 h (fun hb h => ?_) (fun hb h => ?_)
  refine wgo ?_
  repeat refine cj ?_
  refine kIf2 h (fun hb h => ?_) (fun hb h => ?_)
  obtain rfl := Option.some.inj h
  exact fin
  refine wgo ?_
  repeat refine cj ?_
  refine kIf2 h (fun hb h => ?_) (fun hb h => ?_)
  refine wgo ?_
  repeat refine cj ?_
  obtain ⟨y34_3, hy34_3, h⟩ := bd h
  have e := novationseat_Deck_N.spec hy34_3
  try simp only [go_sem, List.map_set, rowsD_append, rowsD_cons, rowsD_nil, rowsD_set, rowsD_take, rowsD_drop, rowsD_replicate] at e
  refine xCall_of [] e ?_
  refine wgo ?_
  repeat refine cj ?_
  obtain ⟨y34_6, hy34_6, h⟩ := bd h
  have e := novationseat_Deck_N.spec hy34_6
  try simp only [go_sem, List.map_set, rowsD_append, rowsD_cons, rowsD_nil, rowsD_set, rowsD_take, rowsD_drop, rowsD_replicate] at e
  refine xCall_of [] e ?_
  obtain ⟨⟨hg34_11_0, hg34_11_1⟩, h⟩ := gd h
  obtain rfl := Option.some.inj h
  exact fin
  refine wgo ?_
  repeat refine cj ?_
  refine kIf2 h (fun hb h => ?_) (fun hb h => ?_)
  refine wgo ?_
  repeat refine cj ?_
  obtain ⟨y36_3, hy36_3, h⟩ := bd h
  have e := novationseat_Deck_N.spec hy36_3
  try simp only [go_sem, List.map_set, rowsD_append, rowsD_cons, rowsD_nil, rowsD_set, rowsD_take, rowsD_drop, rowsD_replicate] at e
  refine xCall_of [] e ?_
  refine wgo ?_
  repeat refine cj ?_
  obtain ⟨y36_6, hy36_6, h⟩ := bd h
  have e := novationseat_Deck_N.spec hy36_6
  try simp only [go_sem, List.map_set, rowsD_append, rowsD_cons, rowsD_nil, rowsD_set, rowsD_take, rowsD_drop, rowsD_replicate] at e
  refine xCall_of [] e ?_
  obtain rfl := Option.some.inj h
  exact fin
  refine wgo ?_
  repeat refine cj ?_
  obtain ⟨y37_2, hy37_2, h⟩ := bd h
  have e := novationseat_Deck_order.spec hy37_2
  try simp only [go_sem, List.map_set, rowsD_append, rowsD_cons, rowsD_nil, rowsD_set, rowsD_take, rowsD_drop, rowsD_replicate] at e
  refine xCall_of [] e ?_
  obtain rfl := Option.some.inj h
  exact fin
  refine wgo ?_
  repeat refine cj ?_
  refine kIf2 h (fun hb h => ?_) (fun hb h => ?_)
  obtain rfl := Option.some.inj h
  exact fin
  refine wgo ?_
  repeat refine cj ?_
  refine kIf2 h (fun hb h => ?_) (fun hb h => ?_)
  refine wgo ?_
  repeat refine cj ?_
  obtain ⟨y34_3, hy34_3, h⟩ := bd h
  have e := novationseat_Deck_N.spec hy34_3
  try simp only [go_sem, List.map_set, rowsD_append, rowsD_cons, rowsD_nil, rowsD_set, rowsD_take, rowsD_drop, rowsD_replicate] at e
  refine xCall_of [] e ?_
  refine wgo ?_
  repeat refine cj ?_
  obtain ⟨y34_6, hy34_6, h⟩ := bd h
  have e := novationseat_Deck_N.spec hy34_6
  try simp only [go_sem, List.map_set, rowsD_append, rowsD_cons, rowsD_nil, rowsD_set, rowsD_take, rowsD_drop, rowsD_replicate] at e
  refine xCall_of [] e ?_
  obtain ⟨⟨hg34_11_0, hg34_11_1⟩, h⟩ := gd h
  obtain rfl := Option.some.inj h
  exact fin
  refine wgo ?_
  repeat refine cj ?_
  refine kIf2 h (fun hb h => ?_) (fun hb h => ?_)
  refine wgo ?_
  repeat refine cj ?_
  obtain ⟨y36_3, hy36_3, h⟩ := bd h
  have e := novationseat_Deck_N.spec hy36_3
  try simp only [go_sem, List.map_set, rowsD_append, rowsD_cons, rowsD_nil, rowsD_set, rowsD_take, rowsD_drop, rowsD_replicate] at e
  refine xCall_of [] e ?_
  refine wgo ?_
  repeat refine cj ?_
  obtain ⟨y36_6, hy36_6, h⟩ := bd h
  have e := novationseat_Deck_N.spec hy36_6
  try simp only [go_sem, List.map_set, rowsD_append, rowsD_cons, rowsD_nil, rowsD_set, rowsD_take, rowsD_drop, rowsD_replicate] at e
  refine xCall_of [] e ?_
  obtain rfl := Option.some.inj h
  exact fin
  refine wgo ?_
  repeat refine cj ?_
  obtain ⟨y37_2, hy37_2, h⟩ := bd h
  have e := novationseat_Deck_order.spec hy37_2
  try simp only [go_sem, List.map_set, rowsD_append, rowsD_cons, rowsD_nil, rowsD_set, rowsD_take, rowsD_drop, rowsD_replicate] at e
  refine xCall_of [] e ?_
  obtain rfl := Option.some.inj h
  exact fin
  refine wgo ?_
  repeat refine cj ?_
  refine kIf2 h (fun hb h => ?_) (fun hb h => ?_)
  refine wgo ?_
  repeat refine cj ?_
  obtain ⟨y13_3, hy13_3, h⟩ := bd h
  have e := novationseat_Deck_Some.spec hy13_3
  try simp only [go_sem, List.map_set, rowsD_append, rowsD_cons, rowsD_nil, rowsD_set, rowsD_take, rowsD_drop, rowsD_replicate] at e
  refine xCall_of [] e ?_
  obtain rfl := Option.some.inj h
  exact fin
  refine wgo ?_
  repeat refine cj ?_
  refine kIf2 h (fun hb h => ?_) (fun hb h => ?_)
  refine wgo ?_
  repeat refine cj ?_
  refine kIf2 h (fun hb h => ?_) (fun hb h => ?_)
  refine wgo ?_
  repeat refine cj ?_
  obtain ⟨y16_3, hy16_3, h⟩ := bd h
  have e := novationseat_Deck_Some.spec hy16_3
  try simp only [go_sem, List.map_set, rowsD_append, rowsD_cons, rowsD_nil, rowsD_set, rowsD_take, rowsD_drop, rowsD_replicate] at e
  refine xCall_of [] e ?_
  obtain rfl := Option.some.inj h
  exact fin
  refine wgo ?_
  repeat refine cj ?_
  refine kIf2 h (fun hb h => ?_) (fun hb h => ?_)
  refine wgo ?_
  repeat refine cj ?_
  obtain ⟨y18_3, hy18_3, h⟩ := bd h
  have e := novationseat_Deck_Some.spec hy18_3
  try simp only [go_sem, List.map_set, rowsD_append, rowsD_cons, rowsD_nil, rowsD_set, rowsD_take, rowsD_drop, rowsD_replicate] at e
  refine xCall_of [] e ?_
  obtain rfl := Option.some.inj h
  exact fin
  refine wgo ?_
  repeat refine cj ?_
  refine kIf2 h (fun hb h => ?_) (fun hb h => ?_)
  refine wgo ?_
  repeat refine cj ?_
  obtain ⟨y20_3, hy20_3, h⟩ := bd h
  have e := novationseat_Deck_N.spec hy20_3
  try simp only [go_sem, List.map_set, rowsD_append, rowsD_cons, rowsD_nil, rowsD_set, rowsD_take, rowsD_drop, rowsD_replicate] at e
  refine xCall_of [] e ?_
  obtain rfl := Option.some.inj h
  exact fin
  refine wgo ?_
  repeat refine cj ?_
  refine kIf2 h (fun hb h => ?_) (fun hb h => ?_)
  refine wgo ?_
  repeat refine cj ?_
  obtain ⟨y22_3, hy22_3, h⟩ := bd h
  have e := novationseat_Deck_mark.spec hy22_3
  try simp only [go_sem, List.map_set, rowsD_append, rowsD_cons, rowsD_nil, rowsD_set, rowsD_take, rowsD_drop, rowsD_replicate] at e
  refine xCall_of [] e ?_
  obtain rfl := Option.some.inj h
  exact fin
  refine wgo ?_
  repeat refine cj ?_
  refine kIf2 h (fun hb h => ?_) (fun hb h => ?_)
  refine wgo ?_
  repeat refine cj ?_
  obtain ⟨y24_2, hy24_2, h⟩ := bd h
  have e := novationseat_Deck_N.spec hy24_2
  try simp only [go_sem, List.map_set, rowsD_append, rowsD_cons, rowsD_nil, rowsD_set, rowsD_take, rowsD_drop, rowsD_replicate] at e
  refine xCall_of [] e ?_
  obtain rfl := Option.some.inj h
  exact fin
  refine wgo ?_
  repeat refine cj ?_
  refine kIf2 h (fun hb h => ?_) (fun hb h => ?_)
  obtain rfl := Option.some.inj h
  exact fin
  refine wgo ?_
  repeat refine cj ?_
  refine kIf2 h (fun hb h => ?_) (fun hb h => ?_)
  refine wgo ?_
  repeat refine cj ?_
  refine kIf2 h (fun hb h => ?_) (fun hb h => ?_)
  obtain rfl := Option.some.inj h
  exact fin
  refine wgo ?_
  repeat refine cj ?_
  refine kIf2 h (fun hb h => ?_) (fun hb h => ?_)
  refine wgo ?_
  repeat refine cj ?_
  obtain ⟨y34_3, hy34_3, h⟩ := bd h
  have e := novationseat_Deck_N.spec hy34_3
  try simp only [go_sem, List.map_set, rowsD_append, rowsD_cons, rowsD_nil, rowsD_set, rowsD_take, rowsD_drop, rowsD_replicate] at e
  refine xCall_of [] e ?_
  refine wgo ?_
  repeat refine cj ?_
  obtain ⟨y34_6, hy34_6, h⟩ := bd h
  have e := novationseat_Deck_N.spec hy34_6
  try simp only [go_sem, List.map_set, rowsD_append, rowsD_cons, rowsD_nil, rowsD_set, rowsD_take, rowsD_drop, rowsD_replicate] at e
  refine xCall_of [] e ?_
  obtain ⟨⟨hg34_11_0, hg34_11_1⟩, h⟩ := gd h
  obtain rfl := Option.some.inj h
  exact fin
  refine wgo ?_
  repeat refine cj ?_
  refine kIf2 h (fun hb h => ?_) (fun hb h => ?_)
  refine wgo ?_
  repeat refine cj ?_
  obtain ⟨y36_3, hy36_3, h⟩ := bd h
  have e := novationseat_Deck_N.spec hy36_3
  try simp only [go_sem, List.map_set, rowsD_append, rowsD_cons, rowsD_nil, rowsD_set, rowsD_take, rowsD_drop, rowsD_replicate] at e
  refine xCall_of [] e ?_
  refine wgo ?_
  repeat refine cj ?_
  obtain ⟨y36_6, hy36_6, h⟩ := bd h
  have e := novationseat_Deck_N.spec hy36_6
  try simp only [go_sem, List.map_set, rowsD_append, rowsD_cons, rowsD_nil, rowsD_set, rowsD_take, rowsD_drop, rowsD_replicate] at e
  refine xCall_of [] e ?_
  obtain rfl := Option.some.inj h
  exact fin
  refine wgo ?_
  repeat refine cj ?_
  obtain ⟨y37_2, hy37_2, h⟩ := bd h
  have e := novationseat_Deck_order.spec hy37_2
  try simp only [go_sem, List.map_set, rowsD_append, rowsD_cons, rowsD_nil, rowsD_set, rowsD_take, rowsD_drop, rowsD_replicate] at e
  refine xCall_of [] e ?_
  obtain rfl := Option.some.inj h
  exact fin
  refine wgo ?_
  repeat refine cj ?_
  refine kIf2 h (fun hb h => ?_) (fun hb h => ?_)
  refine wgo ?_
  repeat refine cj ?_
  refine kIf2 h (fun hb h => ?_) (fun hb h => ?_)
  obtain rfl := Option.some.inj h
  exact fin
  refine wgo ?_
  repeat refine cj ?_
  refine kIf2 h (fun hb h => ?_) (fun hb h => ?_)
  refine wgo ?_
  repeat refine cj ?_
  obtain ⟨y34_3, hy34_3, h⟩ := bd h
  have e := novationseat_Deck_N.spec hy34_3
  try simp only [go_sem, List.map_set, rowsD_append, rowsD_cons, rowsD_nil, rowsD_set, rowsD_take, rowsD_drop, rowsD_replicate] at e
  refine xCall_of [] e ?_
  refine wgo ?_
  repeat refine cj ?_
  obtain ⟨y34_6, hy34_6, h⟩ := bd h
  have e := novationseat_Deck_N.spec hy34_6
  try simp only [go_sem, List.map_set, rowsD_append, rowsD_cons, rowsD_nil, rowsD_set, rowsD_take, rowsD_drop, rowsD_replicate] at e
  refine xCall_of [] e ?_
  obtain ⟨⟨hg34_11_0, hg34_11_1⟩, h⟩ := gd h
  obtain rfl := Option.some.inj h
  exact fin
  refine wgo ?_
  repeat refine cj ?_
  refine kIf2 h (fun hb h => ?_) (fun hb h => ?_)
  refine wgo ?_
  repeat refine cj ?_
  obtain ⟨y36_3, hy36_3, h⟩ := bd h
  have e := novationseat_Deck_N.spec hy36_3
  try simp only [go_sem, List.map_set, rowsD_append, rowsD_cons, rowsD_nil, rowsD_set, rowsD_take, rowsD_drop, rowsD_replicate] at e
  refine xCall_of [] e ?_
  refine wgo ?_
  repeat refine cj ?_
  obtain ⟨y36_6, hy36_6, h⟩ := bd h
  have e := novationseat_Deck_N.spec hy36_6
  try simp only [go_sem, List.map_set, rowsD_append, rowsD_cons, rowsD_nil, rowsD_set, rowsD_take, rowsD_drop, rowsD_replicate] at e
  refine xCall_of [] e ?_
  obtain rfl := Option.some.inj h
  exact fin
  refine wgo ?_
  repeat refine cj ?_
  obtain ⟨y37_2, hy37_2, h⟩ := bd h
  have e := novationseat_Deck_order.spec hy37_2
  try simp only [go_sem, List.map_set, rowsD_append, rowsD_cons, rowsD_nil, rowsD_set, rowsD_take, rowsD_drop, rowsD_replicate] at e
  refine xCall_of [] e ?_
  obtain rfl := Option.some.inj h
  exact fin
  refine wgo ?_
  repeat refine cj ?_
  refine kIf2 h (fun hb h => ?_) (fun hb h => ?_)
  refine wgo ?_
  repeat refine cj ?_
  refine kIf2 h (fun hb h => ?_) (fun hb h => ?_)
  obtain rfl := Option.some.inj h
  exact fin
  refine wgo ?_
  repeat refine cj ?_
  refine kIf2 h (fun hb h => ?_) (fun hb h => ?_)
  refine wgo ?_
  repeat refine cj ?_
  obtain ⟨y34_3, hy34_3, h⟩ := bd h
  have e := novationseat_Deck_N.spec hy34_3
  try simp only [go_sem, List.map_set, rowsD_append, rowsD_cons, rowsD_nil, rowsD_set, rowsD_take, rowsD_drop, rowsD_replicate] at e
  refine xCall_of [] e ?_
  refine wgo ?_
  repeat refine cj ?_
  obtain ⟨y34_6, hy34_6, h⟩ := bd h
  have e := novationseat_Deck_N.spec hy34_6
  try simp only [go_sem, List.map_set, rowsD_append, rowsD_cons, rowsD_nil, rowsD_set, rowsD_take, rowsD_drop, rowsD_replicate] at e
  refine xCall_of [] e ?_
  obtain ⟨⟨hg34_11_0, hg34_11_1⟩, h⟩ := gd h
  obtain rfl := Option.some.inj h
  exact fin
  refine wgo ?_
  repeat refine cj ?_
  refine kIf2 h (fun hb h => ?_) (fun hb h => ?_)
  refine wgo ?_
  repeat refine cj ?_
  obtain ⟨y36_3, hy36_3, h⟩ := bd h
  have e := novationseat_Deck_N.spec hy36_3
  try simp only [go_sem, List.map_set, rowsD_append, rowsD_cons, rowsD_nil, rowsD_set, rowsD_take, rowsD_drop, rowsD_replicate] at e
  refine xCall_of [] e ?_
  refine wgo ?_
  repeat refine cj ?_
  obtain ⟨y36_6, hy36_6, h⟩ := bd h
  have e := novationseat_Deck_N.spec hy36_6
  try simp only [go_sem, List.map_set, rowsD_append, rowsD_cons, rowsD_nil, rowsD_set, rowsD_take, rowsD_drop, rowsD_replicate] at e
  refine xCall_of [] e ?_
  obtain rfl := Option.some.inj h
  exact fin
  refine wgo ?_
  repeat refine cj ?_
  obtain ⟨y37_2, hy37_2, h⟩ := bd h
  have e := novationseat_Deck_order.spec hy37_2
  try simp only [go_sem, List.map_set, rowsD_append, rowsD_cons, rowsD_nil, rowsD_set, rowsD_take, rowsD_drop, rowsD_replicate] at e
  refine xCall_of [] e ?_
  obtain rfl := Option.some.inj h
  exact fin
  refine wgo ?_
  repeat refine cj ?_
  refine kIf2 h (fun hb h => ?_) (fun hb h => ?_)
  refine wgo ?_
  repeat refine cj ?_
  refine kIf2 h (fun hb h => ?_) (fun hb h => ?_)
  obtain rfl := Option.some.inj h
  exact fin
  refine wgo ?_
  repeat refine cj ?_
  refine kIf2 h (fun hb h => ?_) (fun hb h => ?_)
  refine wgo ?_
  repeat refine cj ?_
  obtain ⟨y34_3, hy34_3, h⟩ := bd h
  have e := novationseat_Deck_N.spec hy34_3
  try simp only [go_sem, List.map_set, rowsD_append, rowsD_cons, rowsD_nil, rowsD_set, rowsD_take, rowsD_drop, rowsD_replicate] at e
  refine xCall_of [] e ?_
  refine wgo ?_
  repeat refine cj ?_
  obtain ⟨y34_6, hy34_6, h⟩ := bd h
  have e := novationseat_Deck_N.spec hy34_6
  try simp only [go_sem, List.map_set, rowsD_append, rowsD_cons, rowsD_nil, rowsD_set, rowsD_take, rowsD_drop, rowsD_replicate] at e
  refine xCall_of [] e ?_
  obtain ⟨⟨hg34_11_0, hg34_11_1⟩, h⟩ := gd h
  obtain rfl := Option.some.inj h
  exact fin
  refine wgo ?_
  repeat refine cj ?_
  refine kIf2 h (fun hb h => ?_) (fun hb h => ?_)
  refine wgo ?_
  repeat refine cj ?_
  obtain ⟨y36_3, hy36_3, h⟩ := bd h
  have e := novationseat_Deck_N.spec hy36_3
  try simp only [go_sem, List.map_set, rowsD_append, rowsD_cons, rowsD_nil, rowsD_set, rowsD_take, rowsD_drop, rowsD_replicate] at e
  refine xCall_of [] e ?_
  refine wgo ?_
  repeat refine cj ?_
  obtain ⟨y36_6, hy36_6, h⟩ := bd h
  have e := novationseat_Deck_N.spec hy36_6
  try simp only [go_sem, List.map_set, rowsD_append, rowsD_cons, rowsD_nil, rowsD_set, rowsD_take, rowsD_drop, rowsD_replicate] at e
  refine xCall_of [] e ?_
  obtain rfl := Option.some.inj h
  exact fin
  refine wgo ?_
  repeat refine cj ?_
  obtain ⟨y37_2, hy37_2, h⟩ := bd h
  have e := novationseat_Deck_order.spec hy37_2
  try simp only [go_sem, List.map_set, rowsD_append, rowsD_cons, rowsD_nil, rowsD_set, rowsD_take, rowsD_drop, rowsD_replicate] at e
  refine xCall_of [] e ?_
  obtain rfl := Option.some.inj h
  exact fin
  refine wgo ?_
  repeat refine cj ?_
  refine kIf2 h (fun hb h => ?_) (fun hb h => ?_)
  obtain rfl := Option.some.inj h
  exact fin
  refine wgo ?_
  repeat refine cj ?_
  refine kIf2 h (fun hb h => ?_) (fun hb h => ?_)
  refine wgo ?_
  repeat refine cj ?_
  obtain ⟨y34_3, hy34_3, h⟩ := bd h
  have e := novationseat_Deck_N.spec hy34_3
  try simp only [go_sem, List.map_set, rowsD_append, rowsD_cons, rowsD_nil, rowsD_set, rowsD_take, rowsD_drop, rowsD_replicate] at e
  refine xCall_of [] e ?_
  refine wgo ?_
  repeat refine cj ?_
  obtain ⟨y34_6, hy34_6, h⟩ := bd h
  have e := novationseat_Deck_N.spec hy34_6
  try simp only [go_sem, List.map_set, rowsD_append, rowsD_cons, rowsD_nil, rowsD_set, rowsD_take, rowsD_drop, rowsD_replicate] at e
  refine xCall_of [] e ?_
  obtain ⟨⟨hg34_11_0, hg34_11_1⟩, h⟩ := gd h
  obtain rfl := Option.some.inj h
  exact fin
  refine wgo ?_
  repeat refine cj ?_
  refine kIf2 h (fun hb h => ?_) (fun hb h => ?_)
  refine wgo ?_
  repeat refine cj ?_
  obtain ⟨y36_3, hy36_3, h⟩ := bd h
  have e := novationseat_Deck_N.spec hy36_3
  try simp only [go_sem, List.map_set, rowsD_append, rowsD_cons, rowsD_nil, rowsD_set, rowsD_take, rowsD_drop, rowsD_replicate] at e
  refine xCall_of [] e ?_
  refine wgo ?_
  repeat refine cj ?_
  obtain ⟨y36_6, hy36_6, h⟩ := bd h
  have e := novationseat_Deck_N.spec hy36_6
  try simp only [go_sem, List.map_set, rowsD_append, rowsD_cons, rowsD_nil, rowsD_set, rowsD_take, rowsD_drop, rowsD_replicate] at e
  refine xCall_of [] e ?_
  obtain rfl := Option.some.inj h
  exact fin
  refine wgo ?_
  repeat refine cj ?_
  obtain ⟨y37_2, hy37_2, h⟩ := bd h
  have e := novationseat_Deck_order.spec hy37_2
  try simp only [go_sem, List.map_set, rowsD_append, rowsD_cons, rowsD_nil, rowsD_set, rowsD_take, rowsD_drop, rowsD_replicate] at e
  refine xCall_of [] e ?_
  obtain rfl := Option.some.inj h
  exact fin
  refine wgo ?_
  repeat refine cj ?_
  refine kIf2 h (fun hb h => ?_) (fun hb h => ?_)
  refine wgo ?_
  repeat refine cj ?_
  obtain ⟨y16_3, hy16_3, h⟩ := bd h
  have e := novationseat_Deck_Some.spec hy16_3
  try simp only [go_sem, List.map_set, rowsD_append, rowsD_cons, rowsD_nil, rowsD_set, rowsD_take, rowsD_drop, rowsD_replicate] at e
  refine xCall_of [] e ?_
  obtain rfl := Option.some.inj h
  exact fin
  refine wgo ?_
  repeat refine cj ?_
  refine kIf2 h (fun hb h => ?_) (fun hb h => ?_)
  refine wgo ?_
  repeat refine cj ?_
  obtain ⟨y18_3, hy18_3, h⟩ := bd h
  have e := novationseat_Deck_Some.spec hy18_3
  try simp only [go_sem, List.map_set, rowsD_append, rowsD_cons, rowsD_nil, rowsD_set, rowsD_take, rowsD_drop, rowsD_replicate] at e
  refine xCall_of [] e ?_
  obtain rfl := Option.some.inj h
  exact fin
  refine wgo ?_
  repeat refine cj ?_
  refine kIf2 h (fun hb h => ?_) (fun hb h => ?_)
  refine wgo ?_
  repeat refine cj ?_
  obtain ⟨y20_3, hy20_3, h⟩ := bd h
  have e := novationseat_Deck_N.spec hy20_3
  try simp only [go_sem, List.map_set, rowsD_append, rowsD_cons, rowsD_nil, rowsD_set, rowsD_take, rowsD_drop, rowsD_replicate] at e
  refine xCall_of [] e ?_
  obtain rfl := Option.some.inj h
  exact fin
  refine wgo ?_
  repeat refine cj ?_
  refine kIf2 h (fun hb h => ?_) (fun hb h => ?_)
  refine wgo ?_
  repeat refine cj ?_
  obtain ⟨y22_3, hy22_3, h⟩ := bd h
  have e := novationseat_Deck_mark.spec hy22_3
  try simp only [go_sem, List.map_set, rowsD_append, rowsD_cons, rowsD_nil, rowsD_set, rowsD_take, rowsD_drop, rowsD_replicate] at e
  refine xCall_of [] e ?_
  obtain rfl := Option.some.inj h
  exact fin
  refine wgo ?_
  repeat refine cj ?_
  refine kIf2 h (fun hb h => ?_) (fun hb h => ?_)
  refine wgo ?_
  repeat refine cj ?_
  obtain ⟨y24_2, hy24_2, h⟩ := bd h
  have e := novationseat_Deck_N.spec hy24_2
  try simp only [go_sem, List.map_set, rowsD_append, rowsD_cons, rowsD_nil, rowsD_set, rowsD_take, rowsD_drop, rowsD_replicate] at e
  refine xCall_of [] e ?_
  obtain rfl := Option.some.inj h
  exact fin
  refine wgo ?_
  repeat refine cj ?_
  refine kIf2 h (fun hb h => ?_) (fun hb h => ?_)
  obtain rfl := Option.some.inj h
  exact fin
  refine wgo ?_
  repeat refine cj ?_
  refine kIf2 h (fun hb h => ?_) (fun hb h => ?_)
  refine wgo ?_
  repeat refine cj ?_
  refine kIf2 h (fun hb h => ?_) (fun hb h => ?_)
  obtain rfl := Option.some.inj h
  exact fin
  refine wgo ?_
  repeat refine cj ?_
  refine kIf2 h (fun hb h => ?_) (fun hb h => ?_)
  refine wgo ?_
  repeat refine cj ?_
  obtain ⟨y34_3, hy34_3, h⟩ := bd h
  have e := novationseat_Deck_N.spec hy34_3
  try simp only [go_sem, List.map_set, rowsD_append, rowsD_cons, rowsD_nil, rowsD_set, rowsD_take, rowsD_drop, rowsD_replicate] at e
  refine xCall_of [] e ?_
  refine wgo ?_
  repeat refine cj ?_
  obtain ⟨y34_6, hy34_6, h⟩ := bd h
  have e := novationseat_Deck_N.spec hy34_6
  try simp only [go_sem, List.map_set, rowsD_append, rowsD_cons, rowsD_nil, rowsD_set, rowsD_take, rowsD_drop, rowsD_replicate] at e
  refine xCall_of [] e ?_
  obtain ⟨⟨hg34_11_0, hg34_11_1⟩, h⟩ := gd h
  obtain rfl := Option.some.inj h
  exact fin
  refine wgo ?_
  repeat refine cj ?_
  refine kIf2 h (fun hb h => ?_) (fun hb h => ?_)
  refine wgo ?_
  repeat refine cj ?_
  obtain ⟨y36_3, hy36_3, h⟩ := bd h
  have e := novationseat_Deck_N.spec hy36_3
  try simp only [go_sem, List.map_set, rowsD_append, rowsD_cons, rowsD_nil, rowsD_set, rowsD_take, rowsD_drop, rowsD_replicate] at e
  refine xCall_of [] e ?_
  refine wgo ?_
  repeat refine cj ?_
  obtain ⟨y36_6, hy36_6, h⟩ := bd h
  have e := novationseat_Deck_N.spec hy36_6
  try simp only [go_sem, List.map_set, rowsD_append, rowsD_cons, rowsD_nil, rowsD_set, rowsD_take, rowsD_drop, rowsD_replicate] at e
  refine xCall_of [] e ?_
  obtain rfl := Option.some.inj h
  exact fin
  refine wgo ?_
  repeat refine cj ?_
  obtain ⟨y37_2, hy37_2, h⟩ := bd h
  have e := novationseat_Deck_order.spec hy37_2
  try simp only [go_sem, List.map_set, rowsD_append, rowsD_cons, rowsD_nil, rowsD_set, rowsD_take, rowsD_drop, rowsD_replicate] at e
  refine xCall_of [] e ?_
  obtain rfl := Option.some.inj h
  exact fin
  refine wgo ?_
  repeat refine cj ?_
  refine kIf2 h (fun hb h => ?_) (fun hb h => ?_)
  refine wgo ?_
  repeat refine cj ?_
  refine kIf2 h (fun hb h => ?_) (fun hb h => ?_)
  obtain rfl := Option.some.inj h
  exact fin
  refine wgo ?_
  repeat refine cj ?_
  refine kIf2 h (fun hb h => ?_) (fun hb h => ?_)
  refine wgo ?_
  repeat refine cj ?_
  obtain ⟨y34_3, hy34_3, h⟩ := bd h
  have e := novationseat_Deck_N.spec hy34_3
  try simp only [go_sem, List.map_set, rowsD_append, rowsD_cons, rowsD_nil, rowsD_set, rowsD_take, rowsD_drop, rowsD_replicate] at e
  refine xCall_of [] e ?_
  refine wgo ?_
  repeat refine cj ?_
  obtain ⟨y34_6, hy34_6, h⟩ := bd h
  have e := novationseat_Deck_N.spec hy34_6
  try simp only [go_sem, List.map_set, rowsD_append, rowsD_cons, rowsD_nil, rowsD_set, rowsD_take, rowsD_drop, rowsD_replicate] at e
  refine xCall_of [] e ?_
  obtain ⟨⟨hg34_11_0, hg34_11_1⟩, h⟩ := gd h
  obtain rfl := Option.some.inj h
  exact fin
  refine wgo ?_
  repeat refine cj ?_
  refine kIf2 h (fun hb h => ?_) (fun hb h => ?_)
  refine wgo ?_
  repeat refine cj ?_
  obtain ⟨y36_3, hy36_3, h⟩ := bd h
  have e := novationseat_Deck_N.spec hy36_3
  try simp only [go_sem, List.map_set, rowsD_append, rowsD_cons, rowsD_nil, rowsD_set, rowsD_take, rowsD_drop, rowsD_replicate] at e
  refine xCall_of [] e ?_
  refine wgo ?_
  repeat refine cj ?_
  obtain ⟨y36_6, hy36_6, h⟩ := bd h
  have e := novationseat_Deck_N.spec hy36_6
  try simp only [go_sem, List.map_set, rowsD_append, rowsD_cons, rowsD_nil, rowsD_set, rowsD_take, rowsD_drop, rowsD_replicate] at e
  refine xCall_of [] e ?_
  obtain rfl := Option.some.inj h
  exact fin
  refine wgo ?_
  repeat refine cj ?_
  obtain ⟨y37_2, hy37_2, h⟩ := bd h
  have e := novationseat_Deck_order.spec hy37_2
  try simp only [go_sem, List.map_set, rowsD_append, rowsD_cons, rowsD_nil, rowsD_set, rowsD_take, rowsD_drop, rowsD_replicate] at e
  refine xCall_of [] e ?_
  obtain rfl := Option.some.inj h
  exact fin
  refine wgo ?_
  repeat refine cj ?_
  refine kIf2 h (fun hb h => ?_) (fun hb h => ?_)
  refine wgo ?_
  repeat refine cj ?_
  refine kIf2 h (fun hb h => ?_) (fun hb h => ?_)
  obtain rfl := Option.some.inj h
  exact fin
  refine wgo ?_
  repeat refine cj ?_
  refine kIf2 h (fun hb h => ?_) (fun hb h => ?_)
  refine wgo ?_
  repeat refine cj ?_
  obtain ⟨y34_3, hy34_3, h⟩ := bd h
  have e := novationseat_Deck_N.spec hy34_3
  try simp only [go_sem, List.map_set, rowsD_append, rowsD_cons, rowsD_nil, rowsD_set, rowsD_take, rowsD_drop, rowsD_replicate] at e
  refine xCall_of [] e ?_
  refine wgo ?_
  repeat refine cj ?_
  obtain ⟨y34_6, hy34_6, h⟩ := bd h
  have e := novationseat_Deck_N.spec hy34_6
  try simp only [go_sem, List.map_set, rowsD_append, rowsD_cons, rowsD_nil, rowsD_set, rowsD_take, rowsD_drop, rowsD_replicate] at e
  refine xCall_of [] e ?_
  obtain ⟨⟨hg34_11_0, hg34_11_1⟩, h⟩ := gd h
  obtain rfl := Option.some.inj h
  exact fin
  refine wgo ?_
  repeat refine cj ?_
  refine kIf2 h (fun hb h => ?_) (fun hb h => ?_)
  refine wgo ?_
  repeat refine cj ?_
  obtain ⟨y36_3, hy36_3, h⟩ := bd h
  have e := novationseat_Deck_N.spec hy36_3
  try simp only [go_sem, List.map_set, rowsD_append, rowsD_cons, rowsD_nil, rowsD_set, rowsD_take, rowsD_drop, rowsD_replicate] at e
  refine xCall_of [] e ?_
  refine wgo ?_
  repeat refine cj ?_
  obtain ⟨y36_6, hy36_6, h⟩ := bd h
  have e := novationseat_Deck_N.spec hy36_6
  try simp only [go_sem, List.map_set, rowsD_append, rowsD_cons, rowsD_nil, rowsD_set, rowsD_take, rowsD_drop, rowsD_replicate] at e
  refine xCall_of [] e ?_
  obtain rfl := Option.some.inj h
  exact fin
  refine wgo ?_
  repeat refine cj ?_
  obtain ⟨y37_2, hy37_2, h⟩ := bd h
  have e := novationseat_Deck_order.spec hy37_2
  try simp only [go_sem, List.map_set, rowsD_append, rowsD_cons, rowsD_nil, rowsD_set, rowsD_take, rowsD_drop, rowsD_replicate] at e
  refine xCall_of [] e ?_
  obtain rfl := Option.some.inj h
  exact fin
  refine wgo ?_
  repeat refine cj ?_
  refine kIf2 h (fun hb h => ?_) (fun hb h => ?_)
  refine wgo ?_
  repeat refine cj ?_
  refine kIf2 h (fun hb h => ?_) (fun hb h => ?_)
  obtain rfl := Option.some.inj h
  exact fin
  refine wgo ?_
  repeat refine cj ?_
  refine kIf2 h (fun hb h => ?_) (fun hb h => ?_)
  refine wgo ?_
  repeat refine cj ?_
  obtain ⟨y34_3, hy34_3, h⟩ := bd h
  have e := novationseat_Deck_N.spec hy34_3
  try simp only [go_sem, List.map_set, rowsD_append, rowsD_cons, rowsD_nil, rowsD_set, rowsD_take, rowsD_drop, rowsD_replicate] at e
  refine xCall_of [] e ?_
  refine wgo ?_
  repeat refine cj ?_
  obtain ⟨y34_6, hy34_6, h⟩ := bd h
  have e := novationseat_Deck_N.spec hy34_6
  try simp only [go_sem, List.map_set, rowsD_append, rowsD_cons, rowsD_nil, rowsD_set, rowsD_take, rowsD_drop, rowsD_replicate] at e
  refine xCall_of [] e ?_
  obtain ⟨⟨hg34_11_0, hg34_11_1⟩, h⟩ := gd h
  obtain rfl := Option.some.inj h
  exact fin
  refine wgo ?_
  repeat refine cj ?_
  refine kIf2 h (fun hb h => ?_) (fun hb h => ?_)
  refine wgo ?_
  repeat refine cj ?_
  obtain ⟨y36_3, hy36_3, h⟩ := bd h
  have e := novationseat_Deck_N.spec hy36_3
  try simp only [go_sem, List.map_set, rowsD_append, rowsD_cons, rowsD_nil, rowsD_set, rowsD_take, rowsD_drop, rowsD_replicate] at e
  refine xCall_of [] e ?_
  refine wgo ?_
  repeat refine cj ?_
  obtain ⟨y36_6, hy36_6, h⟩ := bd h
  have e := novationseat_Deck_N.spec hy36_6
  try simp only [go_sem, List.map_set, rowsD_append, rowsD_cons, rowsD_nil, rowsD_set, rowsD_take, rowsD_drop, rowsD_replicate] at e
  refine xCall_of [] e ?_
  obtain rfl := Option.some.inj h
  exact fin
  refine wgo ?_
  repeat refine cj ?_
  obtain ⟨y37_2, hy37_2, h⟩ := bd h
  have e := novationseat_Deck_order.spec hy37_2
  try simp only [go_sem, List.map_set, rowsD_append, rowsD_cons, rowsD_nil, rowsD_set, rowsD_take, rowsD_drop, rowsD_replicate] at e
  refine xCall_of [] e ?_
  obtain rfl := Option.some.inj h
  exact fin
  refine wgo ?_
  repeat refine cj ?_
  refine kIf2 h (fun hb h => ?_) (fun hb h => ?_)
  obtain rfl := Option.some.inj h
  exact fin
  refine wgo ?_
  repeat refine cj ?_
  refine kIf2 h (fun hb h => ?_) (fun hb h => ?_)
  refine wgo ?_
  repeat refine cj ?_
  obtain ⟨y34_3, hy34_3, h⟩ := bd h
  have e := novationseat_Deck_N.spec hy34_3
  try simp only [go_sem, List.map_set, rowsD_append, rowsD_cons, rowsD_nil, rowsD_set, rowsD_take, rowsD_drop, rowsD_replicate] at e
  refine xCall_of [] e ?_
  refine wgo ?_
  repeat refine cj ?_
  obtain ⟨y34_6, hy34_6, h⟩ := bd h
  have e := novationseat_Deck_N.spec hy34_6
  try simp only [go_sem, List.map_set, rowsD_append, rowsD_cons, rowsD_nil, rowsD_set, rowsD_take, rowsD_drop, rowsD_replicate] at e
  refine xCall_of [] e ?_
  obtain ⟨⟨hg34_11_0, hg34_11_1⟩, h⟩ := gd h
  obtain rfl := Option.some.inj h
  exact fin
  refine wgo ?_
  repeat refine cj ?_
  refine kIf2 h (fun hb h => ?_) (fun hb h => ?_)
  refine wgo ?_
  repeat refine cj ?_
  obtain ⟨y36_3, hy36_3, h⟩ := bd h
  have e := novationseat_Deck_N.spec hy36_3
  try simp only [go_sem, List.map_set, rowsD_append, rowsD_cons, rowsD_nil, rowsD_set, rowsD_take, rowsD_drop, rowsD_replicate] at e
  refine xCall_of [] e ?_
  refine wgo ?_
  repeat refine cj ?_
  obtain ⟨y36_6, hy36_6, h⟩ := bd h
  have e := novationseat_Deck_N.spec hy36_6
  try simp only [go_sem, List.map_set, rowsD_append, rowsD_cons, rowsD_nil, rowsD_set, rowsD_take, rowsD_drop, rowsD_replicate] at e
  refine xCall_of [] e ?_
  obtain rfl := Option.some.inj h
  exact fin
  refine wgo ?_
  repeat refine cj ?_
  obtain ⟨y37_2, hy37_2, h⟩ := bd h
  have e := novationseat_Deck_order.spec hy37_2
  try simp only [go_sem, List.map_set, rowsD_append, rowsD_cons, rowsD_nil, rowsD_set, rowsD_take, rowsD_drop, rowsD_replicate] at e
  refine xCall_of [] e ?_
  obtain rfl := Option.some.inj h
  exact fin
end Go.Ax
