/- The walk of novationseat_Deck_Some, printed by gen.py. -/
import Derived.Test.YtmpbhgofllbejaaGa
import Derived.Test.YtmpbhgofllbejaaGs
import Derived.Test.YtmpbhgofllbejaaWa
set_option linter.unusedVariables false
set_option linter.unusedSimpArgs false
set_option linter.unusedSimpArgs false
set_option linter.unusedVariables false
namespace Go.Ax
open Go Go.Proofs
set_option maxRecDepth 100000
set_option maxHeartbeats 4000000
theorem novationseat_Deck_Some.spec {a0 : novationseat_Deck} {r : Int × novationseat_Deck} (h : novationseat_Deck_Some.f a0 = some r) : XSpec Try.prog 77 [.box [.d (.l (rowsD u64D a0.L)), .d (.v (.int .i64 a0.f_i))]] [[.d (.l (rowsD u64D r.2.L)), .d (.v (.int .i64 r.2.f_i))]] [.one (.d (.v (.int .i64 r.1)))] := by
  unfold novationseat_Deck_Some.f at h
  refine xspec_mix [false] mixed Try.func77 rfl (by decide) [0, 2, 3, 7] (rs := [.tmp 2]) rfl (by decide) (n := 29) rfl (by simp) (by kernel_rfl) (by kernel_rfl) (by kernel_rfl) ?_
  refine wgo ?_
  repeat refine cj ?_
  obtain ⟨y1_1, hy1_1, h⟩ := bd h
  have e := novationseat_Deck_Next.spec hy1_1
  try simp only [go_sem, List.map_set, rowsD_append, rowsD_cons, rowsD_nil, rowsD_set, rowsD_take, rowsD_drop, rowsD_replicate] at e
  refine xCall_of [] e ?_
  refine wgo ?_
  repeat refine cj ?_
  refine kIf2 h (fun hb h => ?_) (fun hb h => ?_)
  obtain rfl := Option.some.inj h
  exact fin
  refine wgo ?_
  repeat refine cj ?_
  refine kIf2 h (fun hb h => ?_) (fun hb h => ?_)
  obtain rfl := Option.some.inj h
  exact fin
  refine wgo ?_
  repeat refine cj ?_
  refine kIf2 h (fun hb h => ?_) (fun hb h => ?_)
  obtain rfl := Option.some.inj h
  exact fin
  obtain rfl := Option.some.inj h
  exact fin
end Go.Ax

/- The walk of novationseat_Deck_Yes, printed by gen.py. -/
set_option linter.unusedSimpArgs false
set_option linter.unusedVariables false
namespace Go.Ax
open Go Go.Proofs
set_option maxRecDepth 100000
set_option maxHeartbeats 4000000
theorem novationseat_Deck_Yes.spec {a0 : novationseat_Deck} {a1 : Int} {r : Bool × novationseat_Deck} (h : novationseat_Deck_Yes.f a0 a1 = some r) : XSpec Try.prog 80 [.box [.d (.l (rowsD u64D a0.L)), .d (.v (.int .i64 a0.f_i))], .d (false, [.v (.int .i64 a1)])] [[.d (.l (rowsD u64D r.2.L)), .d (.v (.int .i64 r.2.f_i))], []] [.one (.d (.v (.bool r.1)))] := by
  unfold novationseat_Deck_Yes.f at h
  refine xspec_mix [false] mixed Try.func80 rfl (by decide) [0, 1, 4] (rs := [.tmp 4]) rfl (by decide) (n := 11) rfl (by simp) (by kernel_rfl) (by kernel_rfl) (by kernel_rfl) ?_
  refine wgo ?_
  repeat refine cj ?_
  obtain ⟨y1_2, hy1_2, h⟩ := bd h
  have e := novationseat_Deck_N.spec hy1_2
  try simp only [go_sem, List.map_set, rowsD_append, rowsD_cons, rowsD_nil, rowsD_set, rowsD_take, rowsD_drop, rowsD_replicate] at e
  refine xCall_of [] e ?_
  obtain rfl := Option.some.inj h
  exact fin
end Go.Ax

/- The walk of novationseat_Deck_Config, printed by gen.py. -/
set_option linter.unusedSimpArgs false
set_option linter.unusedVariables false
namespace Go.Ax
open Go Go.Proofs
set_option maxRecDepth 100000
set_option maxHeartbeats 4000000
theorem novationseat_Deck_Config.spec {a0 : novationseat_Deck} {r : api_Config × novationseat_Deck} (h : novationseat_Deck_Config.f a0 = some r) : XSpec Try.prog 23 [.box [.d (.l (rowsD u64D a0.L)), .d (.v (.int .i64 a0.f_i))]] [[.d (.l (rowsD u64D r.2.L)), .d (.v (.int .i64 r.2.f_i))]] [.agg (api_Config.D r.1)] := by
  unfold novationseat_Deck_Config.f at h
  refine xspec_mix [false] mixed Try.func23 rfl (by decide) [0, 2, 3, 4, 5] (rs := [.cell 2 52]) rfl (by decide) (n := 71) rfl (by simp) (by kernel_rfl) (by kernel_rfl) (by kernel_rfl) ?_
  refine wgo ?_
  repeat refine cj ?_
  obtain ⟨y2_1, hy2_1, h⟩ := bd h
  have e := novationseat_Deck_N.spec hy2_1
  try simp only [go_sem, List.map_set, rowsD_append, rowsD_cons, rowsD_nil, rowsD_set, rowsD_take, rowsD_drop, rowsD_replicate] at e
  refine xCall_of [] e ?_
  refine wgo ?_
  repeat refine cj ?_
  obtain ⟨s0, h0, q0⟩ := bd h
  rw [aCode_loop]
  refine aLoop_fx (α := Nat × novationseat_Deck × api_Config × Int) (fun p => (⟨71, [], [(0, .box [.d (.l (rowsD u64D p.2.1.L)), .d (.v (.int .i64 p.2.1.f_i))]), (2, .box [.own 0 (rowsD api_Inst.D ([] : List api_Inst)), .d (.v (.int .i64 0)), .d (.v (.int .i64 0)), .d (.v (.int .i64 0)), .d (.v (.int .i64 0)), .d (.v (.int .i64 0)), .d (.v (.int .i64 0))]), (3, .box [.own 4 (rowsD api_Inst.D p.2.2.1.Insts), .d (.v (.int .i64 p.2.2.1.Skin)), .d (.v (.int .i64 p.2.2.1.Times)), .d (.v (.int .i64 p.2.2.1.Port)), .d (.v (.int .i64 p.2.2.1.Bid)), .d (.v (.int .i64 p.2.2.1.LotSize)), .d (.v (.int .i64 p.2.2.1.HedgeMin))]), (4, .one (.v (.int .i64 p.2.2.2))), (5, .none)]⟩ : S)) (fun p => novationseat_Deck_Config.l0 p.1 p.2.1 p.2.2.1 p.2.2.2 = some s0) (fun p => p.1) (FUEL, y2_1.2, (⟨([] : List api_Inst), 0, 0, 0, 0, 0, 0⟩ : api_Config), IntKind.i64.wrap (1 + y2_1.1)) h0 ?_ ?_
  exact fxs
  rintro ⟨k0, x0_0, x3_0, x4_0⟩ h
  simp only at h
  obtain _ | k0 := k0
  exact absurd h (by simp [novationseat_Deck_Config.l0])
  rw [novationseat_Deck_Config.l0] at h
  refine wgo ?_
  repeat refine cj ?_
  refine kIf2 h (fun hb h => ?_) (fun hb h => ?_)
  refine wgo ?_
  repeat refine cj ?_
  obtain ⟨y5_1, hy5_1, h⟩ := bd h
  have e := novationseat_Deck_N.spec hy5_1
  try simp only [go_sem, List.map_set, rowsD_append, rowsD_cons, rowsD_nil, rowsD_set, rowsD_take, rowsD_drop, rowsD_replicate] at e
  refine xCall_of [] e ?_
  refine wgo ?_
  repeat refine cj ?_
  obtain ⟨y5_3, hy5_3, h⟩ := bd h
  have e := novationseat_Deck_N.spec hy5_3
  try simp only [go_sem, List.map_set, rowsD_append, rowsD_cons, rowsD_nil, rowsD_set, rowsD_take, rowsD_drop, rowsD_replicate] at e
  refine xCall_of [] e ?_
  refine wgo ?_
  repeat refine cj ?_
  obtain ⟨y5_6, hy5_6, h⟩ := bd h
  have e := novationseat_Deck_N.spec hy5_6
  try simp only [go_sem, List.map_set, rowsD_append, rowsD_cons, rowsD_nil, rowsD_set, rowsD_take, rowsD_drop, rowsD_replicate] at e
  refine xCall_of [] e ?_
  refine wgo ?_
  repeat refine cj ?_
  obtain ⟨y5_8, hy5_8, h⟩ := bd h
  have e := novationseat_Deck_N.spec hy5_8
  try simp only [go_sem, List.map_set, rowsD_append, rowsD_cons, rowsD_nil, rowsD_set, rowsD_take, rowsD_drop, rowsD_replicate] at e
  refine xCall_of [] e ?_
  refine wgo ?_
  repeat refine cj ?_
  obtain ⟨y6_1, hy6_1, h⟩ := bd h
  have e := novationseat_Deck_Yes.spec hy6_1
  try simp only [go_sem, List.map_set, rowsD_append, rowsD_cons, rowsD_nil, rowsD_set, rowsD_take, rowsD_drop, rowsD_replicate] at e
  refine xCall_of [] e ?_
  refine wgo ?_
  repeat refine cj ?_
  refine kIf2 h (fun hb h => ?_) (fun hb h => ?_)
  refine wgo ?_
  repeat refine cj ?_
  obtain ⟨y7_1, hy7_1, h⟩ := bd h
  have e := novationseat_Deck_Some.spec hy7_1
  try simp only [go_sem, List.map_set, rowsD_append, rowsD_cons, rowsD_nil, rowsD_set, rowsD_take, rowsD_drop, rowsD_replicate] at e
  refine xCall_of [] e ?_
  refine wgo ?_
  repeat refine cj ?_
  obtain ⟨y8_1, hy8_1, h⟩ := bd h
  have e := novationseat_Deck_Yes.spec hy8_1
  try simp only [go_sem, List.map_set, rowsD_append, rowsD_cons, rowsD_nil, rowsD_set, rowsD_take, rowsD_drop, rowsD_replicate] at e
  refine xCall_of [] e ?_
  refine wgo ?_
  repeat refine cj ?_
  refine kIf2 h (fun hb h => ?_) (fun hb h => ?_)
  refine wgo ?_
  repeat refine cj ?_
  obtain ⟨y9_1, hy9_1, h⟩ := bd h
  have e := novationseat_Deck_Some.spec hy9_1
  try simp only [go_sem, List.map_set, rowsD_append, rowsD_cons, rowsD_nil, rowsD_set, rowsD_take, rowsD_drop, rowsD_replicate] at e
  refine xCall_of [] e ?_
  refine wgo ?_
  repeat refine cj ?_
  obtain ⟨y9_4, hy9_4, h⟩ := bd h
  have e := novationseat_Deck_Some.spec hy9_4
  try simp only [go_sem, List.map_set, rowsD_append, rowsD_cons, rowsD_nil, rowsD_set, rowsD_take, rowsD_drop, rowsD_replicate] at e
  refine xCall_of [] e ?_
  obtain ⟨hg10_4, h⟩ := gd h
  refine wgo ?_
  repeat refine cj ?_
  refine Round.fx (k0, y9_4.2, (⟨x3_0.Insts ++ ([(⟨y5_1.1, IntKind.i64.wrap (1 + (y7_1.1.tmod 1000000000000)), y9_1.1.tmod 1000000001, y9_4.1.tmod 1000000001⟩ : api_Inst)]), x3_0.Skin, x3_0.Times, x3_0.Port, x3_0.Bid, x3_0.LotSize, x3_0.HedgeMin⟩ : api_Config), IntKind.i64.wrap (x4_0 - 1)) h (Nat.lt_succ_self k0) ?_
  exact fxs
  obtain ⟨hg10_4, h⟩ := gd h
  refine wgo ?_
  repeat refine cj ?_
  refine Round.fx (k0, y8_1.2, (⟨x3_0.Insts ++ ([(⟨y5_1.1, IntKind.i64.wrap (1 + (y7_1.1.tmod 1000000000000)), y5_6.1, y5_8.1⟩ : api_Inst)]), x3_0.Skin, x3_0.Times, x3_0.Port, x3_0.Bid, x3_0.LotSize, x3_0.HedgeMin⟩ : api_Config), IntKind.i64.wrap (x4_0 - 1)) h (Nat.lt_succ_self k0) ?_
  exact fxs
  refine wgo ?_
  repeat refine cj ?_
  obtain ⟨y8_1, hy8_1, h⟩ := bd h
  have e := novationseat_Deck_Yes.spec hy8_1
  try simp only [go_sem, List.map_set, rowsD_append, rowsD_cons, rowsD_nil, rowsD_set, rowsD_take, rowsD_drop, rowsD_replicate] at e
  refine xCall_of [] e ?_
  refine wgo ?_
  repeat refine cj ?_
  refine kIf2 h (fun hb h => ?_) (fun hb h => ?_)
  refine wgo ?_
  repeat refine cj ?_
  obtain ⟨y9_1, hy9_1, h⟩ := bd h
  have e := novationseat_Deck_Some.spec hy9_1
  try simp only [go_sem, List.map_set, rowsD_append, rowsD_cons, rowsD_nil, rowsD_set, rowsD_take, rowsD_drop, rowsD_replicate] at e
  refine xCall_of [] e ?_
  refine wgo ?_
  repeat refine cj ?_
  obtain ⟨y9_4, hy9_4, h⟩ := bd h
  have e := novationseat_Deck_Some.spec hy9_4
  try simp only [go_sem, List.map_set, rowsD_append, rowsD_cons, rowsD_nil, rowsD_set, rowsD_take, rowsD_drop, rowsD_replicate] at e
  refine xCall_of [] e ?_
  obtain ⟨hg10_4, h⟩ := gd h
  refine wgo ?_
  repeat refine cj ?_
  refine Round.fx (k0, y9_4.2, (⟨x3_0.Insts ++ ([(⟨y5_1.1, IntKind.i64.wrap (1 + y5_3.1), y9_1.1.tmod 1000000001, y9_4.1.tmod 1000000001⟩ : api_Inst)]), x3_0.Skin, x3_0.Times, x3_0.Port, x3_0.Bid, x3_0.LotSize, x3_0.HedgeMin⟩ : api_Config), IntKind.i64.wrap (x4_0 - 1)) h (Nat.lt_succ_self k0) ?_
  exact fxs
  obtain ⟨hg10_4, h⟩ := gd h
  refine wgo ?_
  repeat refine cj ?_
  refine Round.fx (k0, y8_1.2, (⟨x3_0.Insts ++ ([(⟨y5_1.1, IntKind.i64.wrap (1 + y5_3.1), y5_6.1, y5_8.1⟩ : api_Inst)]), x3_0.Skin, x3_0.Times, x3_0.Port, x3_0.Bid, x3_0.LotSize, x3_0.HedgeMin⟩ : api_Config), IntKind.i64.wrap (x4_0 - 1)) h (Nat.lt_succ_self k0) ?_
  exact fxs
  obtain rfl := Option.some.inj h
  have h := q0
  try dsimp only at h
  refine wgo ?_
  repeat refine cj ?_
  obtain ⟨y11_1, hy11_1, h⟩ := bd h
  have e := novationseat_Deck_N.spec hy11_1
  try simp only [go_sem, List.map_set, rowsD_append, rowsD_cons, rowsD_nil, rowsD_set, rowsD_take, rowsD_drop, rowsD_replicate] at e
  refine xCall_of [] e ?_
  refine wgo ?_
  repeat refine cj ?_
  obtain ⟨y11_3, hy11_3, h⟩ := bd h
  have e := novationseat_Deck_N.spec hy11_3
  try simp only [go_sem, List.map_set, rowsD_append, rowsD_cons, rowsD_nil, rowsD_set, rowsD_take, rowsD_drop, rowsD_replicate] at e
  refine xCall_of [] e ?_
  refine wgo ?_
  repeat refine cj ?_
  obtain ⟨y12_1, hy12_1, h⟩ := bd h
  have e := novationseat_Deck_N.spec hy12_1
  try simp only [go_sem, List.map_set, rowsD_append, rowsD_cons, rowsD_nil, rowsD_set, rowsD_take, rowsD_drop, rowsD_replicate] at e
  refine xCall_of [] e ?_
  refine wgo ?_
  repeat refine cj ?_
  obtain ⟨y12_3, hy12_3, h⟩ := bd h
  have e := novationseat_Deck_N.spec hy12_3
  try simp only [go_sem, List.map_set, rowsD_append, rowsD_cons, rowsD_nil, rowsD_set, rowsD_take, rowsD_drop, rowsD_replicate] at e
  refine xCall_of [] e ?_
  refine wgo ?_
  repeat refine cj ?_
  obtain ⟨y13_1, hy13_1, h⟩ := bd h
  have e := novationseat_Deck_N.spec hy13_1
  try simp only [go_sem, List.map_set, rowsD_append, rowsD_cons, rowsD_nil, rowsD_set, rowsD_take, rowsD_drop, rowsD_replicate] at e
  refine xCall_of [] e ?_
  refine wgo ?_
  repeat refine cj ?_
  obtain ⟨y13_4, hy13_4, h⟩ := bd h
  have e := novationseat_Deck_N.spec hy13_4
  try simp only [go_sem, List.map_set, rowsD_append, rowsD_cons, rowsD_nil, rowsD_set, rowsD_take, rowsD_drop, rowsD_replicate] at e
  refine xCall_of [] e ?_
  refine wgo ?_
  repeat refine cj ?_
  obtain ⟨y14_1, hy14_1, h⟩ := bd h
  have e := novationseat_Deck_Yes.spec hy14_1
  try simp only [go_sem, List.map_set, rowsD_append, rowsD_cons, rowsD_nil, rowsD_set, rowsD_take, rowsD_drop, rowsD_replicate] at e
  refine xCall_of [] e ?_
  refine wgo ?_
  repeat refine cj ?_
  refine kIf2 h (fun hb h => ?_) (fun hb h => ?_)
  refine wgo ?_
  repeat refine cj ?_
  obtain ⟨y15_1, hy15_1, h⟩ := bd h
  have e := novationseat_Deck_Some.spec hy15_1
  try simp only [go_sem, List.map_set, rowsD_append, rowsD_cons, rowsD_nil, rowsD_set, rowsD_take, rowsD_drop, rowsD_replicate] at e
  refine xCall_of [] e ?_
  obtain rfl := Option.some.inj h
  exact fin
  obtain rfl := Option.some.inj h
  exact fin
end Go.Ax

/- The walk of novationseat_Deck_mark, printed by gen.py. -/
set_option linter.unusedSimpArgs false
set_option linter.unusedVariables false
namespace Go.Ax
open Go Go.Proofs
set_option maxRecDepth 100000
set_option maxHeartbeats 4000000
theorem novationseat_Deck_mark.spec {a0 : novationseat_Deck} {a1 : api_Config} {a2 : Int} {r : api_Event × novationseat_Deck} (h : novationseat_Deck_mark.f a0 a1 a2 = some r) : XSpec Try.prog 78 [.box [.d (.l (rowsD u64D a0.L)), .d (.v (.int .i64 a0.f_i))], .d (true, api_Config.D a1), .d (false, [.v (.int .i64 a2)])] [[.d (.l (rowsD u64D r.2.L)), .d (.v (.int .i64 r.2.f_i))], [], []] [.agg (api_Event.D r.1)] := by
  unfold novationseat_Deck_mark.f at h
  refine xspec_mix [false] mixed Try.func78 rfl (by decide) [0, 1, 2, 4, 6, 7] (rs := [.cell 6 48]) rfl (by decide) (n := 30) rfl (by simp) (by kernel_rfl) (by kernel_rfl) (by kernel_rfl) ?_
  obtain ⟨⟨hg1_4_0, hg1_4_1⟩, h⟩ := gd h
  refine wgo ?_
  repeat refine cj ?_
  obtain ⟨y1_8, hy1_8, h⟩ := bd h
  have e := novationseat_Deck_N.spec hy1_8
  try simp only [go_sem, List.map_set, rowsD_append, rowsD_cons, rowsD_nil, rowsD_set, rowsD_take, rowsD_drop, rowsD_replicate] at e
  refine xCall_of [] e ?_
  refine wgo ?_
  repeat refine cj ?_
  obtain ⟨y2_1, hy2_1, h⟩ := bd h
  have e := novationseat_Deck_Yes.spec hy2_1
  try simp only [go_sem, List.map_set, rowsD_append, rowsD_cons, rowsD_nil, rowsD_set, rowsD_take, rowsD_drop, rowsD_replicate] at e
  refine xCall_of [] e ?_
  refine wgo ?_
  repeat refine cj ?_
  refine kIf2 h (fun hb h => ?_) (fun hb h => ?_)
  refine wgo ?_
  repeat refine cj ?_
  obtain ⟨y3_1, hy3_1, h⟩ := bd h
  have e := novationseat_Deck_Some.spec hy3_1
  try simp only [go_sem, List.map_set, rowsD_append, rowsD_cons, rowsD_nil, rowsD_set, rowsD_take, rowsD_drop, rowsD_replicate] at e
  refine xCall_of [] e ?_
  obtain rfl := Option.some.inj h
  exact fin
  obtain rfl := Option.some.inj h
  exact fin
end Go.Ax

/- The walk of novationseat_Deck_order, printed by gen.py. -/
set_option linter.unusedSimpArgs false
set_option linter.unusedVariables false
namespace Go.Ax
open Go Go.Proofs
set_option maxRecDepth 100000
set_option maxHeartbeats 4000000
theorem novationseat_Deck_order.spec {a0 : novationseat_Deck} {a1 : api_Config} {r : api_Event × novationseat_Deck} (h : novationseat_Deck_order.f a0 a1 = some r) : XSpec Try.prog 79 [.box [.d (.l (rowsD u64D a0.L)), .d (.v (.int .i64 a0.f_i))], .d (true, api_Config.D a1)] [[.d (.l (rowsD u64D r.2.L)), .d (.v (.int .i64 r.2.f_i))], []] [.agg (api_Event.D r.1)] := by
  unfold novationseat_Deck_order.f at h
  refine xspec_mix [false] mixed Try.func79 rfl (by decide) [0, 1, 3, 4, 5, 6] (rs := [.cell 4 48]) rfl (by decide) (n := 48) rfl (by simp) (by kernel_rfl) (by kernel_rfl) (by kernel_rfl) ?_
  refine wgo ?_
  repeat refine cj ?_
  obtain ⟨y1_4, hy1_4, h⟩ := bd h
  have e := novationseat_Deck_N.spec hy1_4
  try simp only [go_sem, List.map_set, rowsD_append, rowsD_cons, rowsD_nil, rowsD_set, rowsD_take, rowsD_drop, rowsD_replicate] at e
  refine xCall_of [] e ?_
  refine wgo ?_
  repeat refine cj ?_
  obtain ⟨y2_1, hy2_1, h⟩ := bd h
  have e := novationseat_Deck_N.spec hy2_1
  try simp only [go_sem, List.map_set, rowsD_append, rowsD_cons, rowsD_nil, rowsD_set, rowsD_take, rowsD_drop, rowsD_replicate] at e
  refine xCall_of [] e ?_
  refine wgo ?_
  repeat refine cj ?_
  obtain ⟨y2_5, hy2_5, h⟩ := bd h
  have e := novationseat_Deck_N.spec hy2_5
  try simp only [go_sem, List.map_set, rowsD_append, rowsD_cons, rowsD_nil, rowsD_set, rowsD_take, rowsD_drop, rowsD_replicate] at e
  refine xCall_of [] e ?_
  refine wgo ?_
  repeat refine cj ?_
  obtain ⟨y2_8, hy2_8, h⟩ := bd h
  have e := novationseat_Deck_N.spec hy2_8
  try simp only [go_sem, List.map_set, rowsD_append, rowsD_cons, rowsD_nil, rowsD_set, rowsD_take, rowsD_drop, rowsD_replicate] at e
  refine xCall_of [] e ?_
  obtain ⟨⟨hg2_13_0, hg2_13_1⟩, h⟩ := gd h
  refine wgo ?_
  repeat refine cj ?_
  obtain ⟨y2_17, hy2_17, h⟩ := bd h
  have e := novationseat_Deck_N.spec hy2_17
  try simp only [go_sem, List.map_set, rowsD_append, rowsD_cons, rowsD_nil, rowsD_set, rowsD_take, rowsD_drop, rowsD_replicate] at e
  refine xCall_of [] e ?_
  refine wgo ?_
  repeat refine cj ?_
  obtain ⟨y3_1, hy3_1, h⟩ := bd h
  have e := novationseat_Deck_Yes.spec hy3_1
  try simp only [go_sem, List.map_set, rowsD_append, rowsD_cons, rowsD_nil, rowsD_set, rowsD_take, rowsD_drop, rowsD_replicate] at e
  refine xCall_of [] e ?_
  refine wgo ?_
  repeat refine cj ?_
  refine kIf2 h (fun hb h => ?_) (fun hb h => ?_)
  refine wgo ?_
  repeat refine cj ?_
  obtain ⟨y4_1, hy4_1, h⟩ := bd h
  have e := novationseat_Deck_Some.spec hy4_1
  try simp only [go_sem, List.map_set, rowsD_append, rowsD_cons, rowsD_nil, rowsD_set, rowsD_take, rowsD_drop, rowsD_replicate] at e
  refine xCall_of [] e ?_
  refine wgo ?_
  repeat refine cj ?_
  obtain ⟨y4_5, hy4_5, h⟩ := bd h
  have e := novationseat_Deck_Some.spec hy4_5
  try simp only [go_sem, List.map_set, rowsD_append, rowsD_cons, rowsD_nil, rowsD_set, rowsD_take, rowsD_drop, rowsD_replicate] at e
  refine xCall_of [] e ?_
  obtain rfl := Option.some.inj h
  exact fin
  obtain rfl := Option.some.inj h
  exact fin
end Go.Ax
