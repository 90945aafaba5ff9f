/- The walk of mark_Price, printed by gen.py. -/
import Derived.Test.YtmpbhgofllbejaaGa
import Derived.Test.YtmpbhgofllbejaaGs
set_option linter.unusedVariables false
set_option linter.unusedSimpArgs false
set_option linter.unusedSimpArgs false
set_option linter.unusedVariables false
namespace Go.Ax
open Go Go.Proofs
set_option maxRecDepth 100000
set_option maxHeartbeats 4000000
theorem mark_Price.spec {a0 : Int} {r : Bool} (h : mark_Price.f a0 = some r) : FSpec Try.prog 63 [(false, [.v (.int .i64 a0)])] [.one (.d (.v (.bool r)))] := by
  unfold mark_Price.f at h
  refine fspec_data mixed Try.func63 rfl (by decide) [0, 2] (rs := [.tmp 2]) rfl (by decide) (n := 9) rfl (by simp) ?_
  refine wgo ?_
  repeat refine cj ?_
  refine kIf2 h (fun hb h => ?_) (fun hb h => ?_)
  obtain rfl := Option.some.inj h
  exact fin
  obtain rfl := Option.some.inj h
  exact fin
end Go.Ax

/- The walk of mark_Right, printed by gen.py. -/
set_option linter.unusedSimpArgs false
set_option linter.unusedVariables false
namespace Go.Ax
open Go Go.Proofs
set_option maxRecDepth 100000
set_option maxHeartbeats 4000000
theorem mark_Right.spec {a0 : api_Trade} {r : Bool} (h : mark_Right.f a0 = some r) : FSpec Try.prog 28 [(true, api_Trade.D a0)] [.one (.d (.v (.bool r)))] := by
  unfold mark_Right.f at h
  refine fspec_data mixed Try.func28 rfl (by decide) [0, 1, 2, 4, 9, 10] (rs := [.tmp 2]) rfl (by decide) (n := 50) rfl (by simp) ?_
  refine wgo ?_
  repeat refine cj ?_
  obtain ⟨f0, h0, q0⟩ := bd h
  rw [aCode_loop]
  refine aLoop_fx (α := Nat × Int) (fun p => (⟨50, [], [(0, .agg (api_Trade.D a0)), (1, .box [.d (.v (.int .i64 a0.Buy)), .d (.v (.int .i64 a0.Sell)), .d (.v (.int .i64 a0.Inst)), .d (.v (.int .i64 a0.Q)), .d (.v (.int .i64 a0.P))]), (2, .one (.v (.bool false))), (4, .none), (9, .agg (List.map (fun x => D.v (Value.int .i64 x)) ([a0.Buy, a0.Sell] : List Int))), (10, .one (.v (.int .i64 p.2)))]⟩ : S)) (fun p => mark_Right.l0 a0 p.1 p.2 = some f0) (fun p => p.1) (FUEL, 0) h0 ?_ ?_
  exact fxs
  rintro ⟨k0, x10_0⟩ h
  simp only at h
  obtain _ | k0 := k0
  exact absurd h (by simp [mark_Right.l0])
  rw [mark_Right.l0] at h
  refine wgo ?_
  repeat refine cj ?_
  refine kIf2 h (fun hb h => ?_) (fun hb h => ?_)
  obtain ⟨⟨hg3_0_0, hg3_0_1⟩, h⟩ := gd h
  obtain ⟨hg3_0l, h⟩ := gd h
  have ha0 := arr_get (fun x => D.v (Value.int .i64 x)) ([a0.Buy, a0.Sell] : List Int) (i := x10_0) (by omega) (by omega)
  have hs0 := fun z => arr_put (fun x => D.v (Value.int .i64 x)) ([a0.Buy, a0.Sell] : List Int) (i := x10_0) z (by omega) (by omega)
  have hu0 := fun z => arr_put2 (fun x => D.v (Value.int .i64 x)) ([a0.Buy, a0.Sell] : List Int) (i := x10_0) z (by omega) (by omega)
  try simp only [List.map_cons, List.map_nil] at ha0 hs0 hu0
  try simp (maxSteps := 2000000) only [go_sem, p_kSeq, ↓reduceIte, reduceCtorEq, Nat.reduceLT, Nat.reduceLeDiff, Nat.reduceEqDiff, Nat.reduceMul, Nat.reduceAdd, Nat.reduceSub, Int.reduceLE, Int.reduceLT, ha0, hs0, hu0]
  repeat refine cj ?_
  refine kIf3 h (fun hb h => ?_) (fun hb h => ?_)
  try simp (maxSteps := 2000000) only [go_sem, p_kSeq, ↓reduceIte, reduceCtorEq, Nat.reduceLT, Nat.reduceLeDiff, Nat.reduceEqDiff, Nat.reduceMul, Nat.reduceAdd, Nat.reduceSub, Int.reduceLE, Int.reduceLT, ha0, hs0, hu0]
  repeat refine cj ?_
  refine kIf2 h (fun hb h => ?_) (fun hb h => ?_)
  obtain rfl := Option.some.inj h
  have h := q0
  simp only [Flow.go_ret, Flow.goL_ret] at h
  obtain rfl := Option.some.inj h
  (try simp (maxSteps := 2000000) only [go_sem, p_kSeq, ↓reduceIte, reduceCtorEq, Nat.reduceLT, Nat.reduceLeDiff, Nat.reduceEqDiff, Nat.reduceMul, Nat.reduceAdd, Nat.reduceSub, Int.reduceLE, Int.reduceLT, ha0, hs0, hu0]) <;> first | rfl | ((repeat (first | refine And.intro (by first | assumption | (show chk _ _ _ = true; kernel_rfl) | (show isSl _ _ = true; kernel_rfl) | omega | (simp; done)) ?_ | rfl | omega | simp only [rowsD_append, rowsD_cons, rowsD_nil, rowsD_set, rowsD_take, rowsD_drop, rowsD_replicate])); done) | (simp only [List.map_set, rowsD_append, rowsD_cons, rowsD_nil, rowsD_set, rowsD_take, rowsD_drop, rowsD_replicate]; done) | (simp only [List.map_set, rowsD_append, rowsD_cons, rowsD_nil, rowsD_set, rowsD_take, rowsD_drop, rowsD_replicate]; rfl) | (simp; done)
  try simp (maxSteps := 2000000) only [go_sem, p_kSeq, ↓reduceIte, reduceCtorEq, Nat.reduceLT, Nat.reduceLeDiff, Nat.reduceEqDiff, Nat.reduceMul, Nat.reduceAdd, Nat.reduceSub, Int.reduceLE, Int.reduceLT, ha0, hs0, hu0]
  repeat refine cj ?_
  refine Round.fx (k0, IntKind.i64.wrap (x10_0 + 1)) h (Nat.lt_succ_self k0) ?_
  exact fxs
  obtain rfl := Option.some.inj h
  have h := q0
  simp only [Flow.go_ret, Flow.goL_ret] at h
  obtain rfl := Option.some.inj h
  (try simp (maxSteps := 2000000) only [go_sem, p_kSeq, ↓reduceIte, reduceCtorEq, Nat.reduceLT, Nat.reduceLeDiff, Nat.reduceEqDiff, Nat.reduceMul, Nat.reduceAdd, Nat.reduceSub, Int.reduceLE, Int.reduceLT, ha0, hs0, hu0]) <;> first | rfl | ((repeat (first | refine And.intro (by first | assumption | (show chk _ _ _ = true; kernel_rfl) | (show isSl _ _ = true; kernel_rfl) | omega | (simp; done)) ?_ | rfl | omega | simp only [rowsD_append, rowsD_cons, rowsD_nil, rowsD_set, rowsD_take, rowsD_drop, rowsD_replicate])); done) | (simp only [List.map_set, rowsD_append, rowsD_cons, rowsD_nil, rowsD_set, rowsD_take, rowsD_drop, rowsD_replicate]; done) | (simp only [List.map_set, rowsD_append, rowsD_cons, rowsD_nil, rowsD_set, rowsD_take, rowsD_drop, rowsD_replicate]; rfl) | (simp; done)
  obtain rfl := Option.some.inj h
  have h := q0
  simp only [Flow.go_out, Flow.goL_out] at h
  try dsimp only at h
  refine wgo ?_
  repeat refine cj ?_
  refine kIf2 h (fun hb h => ?_) (fun hb h => ?_)
  refine wgo ?_
  repeat refine cj ?_
  refine kIf2 h (fun hb h => ?_) (fun hb h => ?_)
  refine wgo ?_
  repeat refine cj ?_
  refine kIf2 h (fun hb h => ?_) (fun hb h => ?_)
  refine wgo ?_
  repeat refine cj ?_
  refine kIf2 h (fun hb h => ?_) (fun hb h => ?_)
  refine wgo ?_
  repeat refine cj ?_
  refine kIf2 h (fun hb h => ?_) (fun hb h => ?_)
  refine wgo ?_
  repeat refine cj ?_
  obtain ⟨y7_28, hy7_28, h⟩ := bd h
  refine aCall_of (mark_Price.spec hy7_28) ?_
  obtain rfl := Option.some.inj h
  exact fin
  obtain rfl := Option.some.inj h
  exact fin
  obtain rfl := Option.some.inj h
  exact fin
  obtain rfl := Option.some.inj h
  exact fin
  obtain rfl := Option.some.inj h
  exact fin
  obtain rfl := Option.some.inj h
  exact fin
end Go.Ax

/- The walk of mark_entry, printed by gen.py. -/
set_option linter.unusedSimpArgs false
set_option linter.unusedVariables false
namespace Go.Ax
open Go Go.Proofs
set_option maxRecDepth 100000
set_option maxHeartbeats 4000000
theorem mark_entry.spec {a0 : Int} {a1 : Int} {r : api_Entry} (h : mark_entry.f a0 a1 = some r) : FSpec Try.prog 64 [(false, [.v (.int .i64 a0)]), (true, wD a1)] [.agg (api_Entry.D r)] := by
  unfold mark_entry.f at h
  refine fspec_data mixed Try.func64 rfl (by decide) [0, 1, 3, 4] (rs := [.cell 4 63]) rfl (by decide) (n := 12) rfl (by simp) ?_
  refine wgo ?_
  repeat refine cj ?_
  refine kIf2 h (fun hb h => ?_) (fun hb h => ?_)
  obtain rfl := Option.some.inj h
  exact fin
  obtain rfl := Option.some.inj h
  exact fin
end Go.Ax

/- The walk of mark_Trade, printed by gen.py. -/
set_option linter.unusedSimpArgs false
set_option linter.unusedVariables false
namespace Go.Ax
open Go Go.Proofs
set_option maxRecDepth 100000
set_option maxHeartbeats 4000000
theorem mark_Trade.spec {a0 : api_Trade} {a1 : Int} {r : (List api_Entry) × Int} (h : mark_Trade.f a0 a1 = some r) : FSpec Try.prog 25 [(true, api_Trade.D a0), (false, [.v (.int .i64 a1)])] [.one (.d (.l (rowsD api_Entry.D r.1))), .one (.d (.v (.int .i64 r.2)))] := by
  unfold mark_Trade.f at h
  refine fspec_data mixed Try.func25 rfl (by decide) [0, 1, 2, 4, 5] (rs := [.tmp 4, .tmp 5]) rfl (by decide) (n := 41) rfl (by simp) ?_
  refine wgo ?_
  repeat refine cj ?_
  obtain ⟨y1_1, hy1_1, h⟩ := bd h
  refine aCall_of (mark_Right.spec hy1_1) ?_
  refine wgo ?_
  repeat refine cj ?_
  refine kIf3 h (fun hb h => ?_) (fun hb h => ?_)
  refine wgo ?_
  repeat refine cj ?_
  obtain ⟨y1_5, hy1_5, h⟩ := bd h
  refine aCall_of (mark_Price.spec hy1_5) ?_
  refine wgo ?_
  repeat refine cj ?_
  refine kIf2 h (fun hb h => ?_) (fun hb h => ?_)
  obtain rfl := Option.some.inj h
  exact fin
  refine wgo ?_
  repeat refine cj ?_
  refine kIf2 h (fun hb h => ?_) (fun hb h => ?_)
  obtain rfl := Option.some.inj h
  exact fin
  refine wgo ?_
  repeat refine cj ?_
  obtain ⟨y5_8, hy5_8, h⟩ := bd h
  refine aCall_of (wide_Mul.spec hy5_8) ?_
  refine wgo ?_
  repeat refine cj ?_
  obtain ⟨y5_9, hy5_9, h⟩ := bd h
  refine aCall_of (mark_entry.spec hy5_9) ?_
  refine wgo ?_
  repeat refine cj ?_
  obtain ⟨y5_18, hy5_18, h⟩ := bd h
  refine aCall_of (wide_Mul.spec hy5_18) ?_
  refine wgo ?_
  repeat refine cj ?_
  obtain ⟨y5_19, hy5_19, h⟩ := bd h
  refine aCall_of (mark_entry.spec hy5_19) ?_
  obtain rfl := Option.some.inj h
  exact fin
  obtain rfl := Option.some.inj h
  exact fin
end Go.Ax

/- The walk of novationhelp_Entries, printed by gen.py. -/
set_option linter.unusedSimpArgs false
set_option linter.unusedVariables false
namespace Go.Ax
open Go Go.Proofs
set_option maxRecDepth 100000
set_option maxHeartbeats 4000000
theorem novationhelp_Entries.spec {a0 : List api_Entry} {a1 : List novationref10_Part} {r : Bool} (h : novationhelp_Entries.f a0 a1 = some r) : FSpec Try.prog 14 [(false, [.l (rowsD api_Entry.D a0)]), (false, [.l (rowsD novationref10_Part.D a1)])] [.one (.d (.v (.bool r)))] := by
  unfold novationhelp_Entries.f at h
  refine fspec_data mixed Try.func14 rfl (by decide) [0, 1, 4, 5] (rs := [.tmp 4]) rfl (by decide) (n := 55) rfl (by simp) ?_
  refine wgo ?_
  repeat refine cj ?_
  refine kIf2 h (fun hb h => ?_) (fun hb h => ?_)
  obtain rfl := Option.some.inj h
  exact fin
  refine wgo ?_
  repeat refine cj ?_
  obtain ⟨f1, h1, q1⟩ := bd h
  rw [aCode_loop]
  refine aLoop_fx (α := Nat × Int) (fun p => (⟨55, [], [(0, .one (.l (rowsD api_Entry.D a0))), (1, .one (.l (rowsD novationref10_Part.D a1))), (4, .one (.v (.bool false))), (5, .one (.v (.int .i64 p.2)))]⟩ : S)) (fun p => novationhelp_Entries.l0 a0 a1 p.1 p.2 = some f1) (fun p => p.1) (FUEL, 0) h1 ?_ ?_
  exact fxs
  rintro ⟨k1, x5_1⟩ h
  simp only at h
  obtain _ | k1 := k1
  exact absurd h (by simp [novationhelp_Entries.l0])
  rw [novationhelp_Entries.l0] at h
  refine wgo ?_
  repeat refine cj ?_
  refine kIf2 h (fun hb h => ?_) (fun hb h => ?_)
  obtain ⟨⟨hg6_2_0, hg6_2_1⟩, h⟩ := gd h
  obtain ⟨⟨hg6_7_0, hg6_7_1⟩, h⟩ := gd h
  refine wgo ?_
  repeat refine cj ?_
  refine kIf3 h (fun hb h => ?_) (fun hb h => ?_)
  refine wgo ?_
  repeat refine cj ?_
  refine kIf3 h (fun hb h => ?_) (fun hb h => ?_)
  refine wgo ?_
  repeat refine cj ?_
  obtain ⟨y6_35, hy6_35, h⟩ := bd h
  refine aCall_of (novationhelp_Wide.spec hy6_35) ?_
  refine wgo ?_
  repeat refine cj ?_
  refine kIf2 h (fun hb h => ?_) (fun hb h => ?_)
  obtain rfl := Option.some.inj h
  have h := q1
  simp only [Flow.go_ret, Flow.goL_ret] at h
  obtain rfl := Option.some.inj h
  exact fin
  refine wgo ?_
  repeat refine cj ?_
  refine Round.fx (k1, IntKind.i64.wrap (x5_1 + 1)) h (Nat.lt_succ_self k1) ?_
  exact fxs
  obtain rfl := Option.some.inj h
  have h := q1
  simp only [Flow.go_ret, Flow.goL_ret] at h
  obtain rfl := Option.some.inj h
  exact fin
  obtain rfl := Option.some.inj h
  have h := q1
  simp only [Flow.go_ret, Flow.goL_ret] at h
  obtain rfl := Option.some.inj h
  exact fin
  obtain rfl := Option.some.inj h
  have h := q1
  simp only [Flow.go_out, Flow.goL_out] at h
  try dsimp only at h
  obtain rfl := Option.some.inj h
  exact fin
end Go.Ax

/- The walk of stock_Quantity, printed by gen.py. -/
set_option linter.unusedSimpArgs false
set_option linter.unusedVariables false
namespace Go.Ax
open Go Go.Proofs
set_option maxRecDepth 100000
set_option maxHeartbeats 4000000
theorem stock_Quantity.spec {a0 : Int} {r : Bool} (h : stock_Quantity.f a0 = some r) : FSpec Try.prog 109 [(false, [.v (.int .i64 a0)])] [.one (.d (.v (.bool r)))] := by
  unfold stock_Quantity.f at h
  refine fspec_data mixed Try.func109 rfl (by decide) [0, 2] (rs := [.tmp 2]) rfl (by decide) (n := 5) rfl (by simp) ?_
  obtain rfl := Option.some.inj h
  exact fin
end Go.Ax

/- The walk of stock_key, printed by gen.py. -/
set_option linter.unusedSimpArgs false
set_option linter.unusedVariables false
namespace Go.Ax
open Go Go.Proofs
set_option maxRecDepth 100000
set_option maxHeartbeats 4000000
theorem stock_key.spec {a0 : Int} {a1 : Int} {r : Bool} (h : stock_key.f a0 a1 = some r) : FSpec Try.prog 108 [(false, [.v (.int .i64 a0)]), (false, [.v (.int .i64 a1)])] [.one (.d (.v (.bool r)))] := by
  unfold stock_key.f at h
  refine fspec_data mixed Try.func108 rfl (by decide) [0, 1, 4] (rs := [.tmp 4]) rfl (by decide) (n := 19) rfl (by simp) ?_
  refine wgo ?_
  repeat refine cj ?_
  refine kIf2 h (fun hb h => ?_) (fun hb h => ?_)
  refine wgo ?_
  repeat refine cj ?_
  refine kIf2 h (fun hb h => ?_) (fun hb h => ?_)
  refine wgo ?_
  repeat refine cj ?_
  refine kIf2 h (fun hb h => ?_) (fun hb h => ?_)
  obtain rfl := Option.some.inj h
  exact fin
  obtain rfl := Option.some.inj h
  exact fin
  obtain rfl := Option.some.inj h
  exact fin
  obtain rfl := Option.some.inj h
  exact fin
end Go.Ax

/- The walk of stock_order, printed by gen.py. -/
set_option linter.unusedSimpArgs false
set_option linter.unusedVariables false
namespace Go.Ax
open Go Go.Proofs
set_option maxRecDepth 100000
set_option maxHeartbeats 4000000
theorem stock_order.spec {a0 : Int} {a1 : Int} {a2 : api_Pos} {r : Int} (h : stock_order.f a0 a1 a2 = some r) : FSpec Try.prog 110 [(false, [.v (.int .i64 a0)]), (false, [.v (.int .i64 a1)]), (true, api_Pos.D a2)] [.one (.d (.v (.int .i64 r)))] := by
  unfold stock_order.f at h
  refine fspec_data mixed Try.func110 rfl (by decide) [0, 1, 2, 5, 6] (rs := [.tmp 6]) rfl (by decide) (n := 19) rfl (by simp) ?_
  refine wgo ?_
  repeat refine cj ?_
  refine kIf2 h (fun hb h => ?_) (fun hb h => ?_)
  obtain rfl := Option.some.inj h
  exact fin
  obtain rfl := Option.some.inj h
  exact fin
end Go.Ax

/- The walk of stock_Right, printed by gen.py. -/
set_option linter.unusedSimpArgs false
set_option linter.unusedVariables false
namespace Go.Ax
open Go Go.Proofs
set_option maxRecDepth 100000
set_option maxHeartbeats 4000000
theorem stock_Right.spec {a0 : List api_Pos} {r : Bool} (h : stock_Right.f a0 = some r) : FSpec Try.prog 47 [(false, [.l (rowsD api_Pos.D a0)])] [.one (.d (.v (.bool r)))] := by
  unfold stock_Right.f at h
  refine fspec_data mixed Try.func47 rfl (by decide) [0, 2, 3, 4, 5, 6, 7] (rs := [.tmp 2]) rfl (by decide) (n := 47) rfl (by simp) ?_
  refine wgo ?_
  repeat refine cj ?_
  obtain ⟨f0, h0, q0⟩ := bd h
  rw [aCode_loop]
  refine aLoop_fx (α := Nat × Int) (fun p => (⟨47, [], [(0, .one (.l (rowsD api_Pos.D a0))), (2, .one (.v (.bool false))), (3, .none), (4, .none), (5, .one (.l (rowsD api_Pos.D a0))), (6, .one (.v (.int .i64 (a0.length : Int)))), (7, .one (.v (.int .i64 p.2)))]⟩ : S)) (fun p => stock_Right.l0 a0 p.1 p.2 = some f0) (fun p => p.1) (FUEL, 0) h0 ?_ ?_
  exact fxs
  rintro ⟨k0, x7_0⟩ h
  simp only at h
  obtain _ | k0 := k0
  exact absurd h (by simp [stock_Right.l0])
  rw [stock_Right.l0] at h
  refine wgo ?_
  repeat refine cj ?_
  refine kIf2 h (fun hb h => ?_) (fun hb h => ?_)
  obtain ⟨⟨hg3_1_0, hg3_1_1⟩, h⟩ := gd h
  refine wgo ?_
  repeat refine cj ?_
  obtain ⟨y4_4, hy4_4, h⟩ := bd h
  refine aCall_of (stock_key.spec hy4_4) ?_
  refine wgo ?_
  repeat refine cj ?_
  refine kIf3 h (fun hb h => ?_) (fun hb h => ?_)
  refine wgo ?_
  repeat refine cj ?_
  refine kIf3 h (fun hb h => ?_) (fun hb h => ?_)
  refine wgo ?_
  repeat refine cj ?_
  obtain ⟨y4_14, hy4_14, h⟩ := bd h
  refine aCall_of (stock_Quantity.spec hy4_14) ?_
  refine wgo ?_
  repeat refine cj ?_
  refine kIf3 h (fun hb h => ?_) (fun hb h => ?_)
  refine wgo ?_
  repeat refine cj ?_
  refine kIf2 h (fun hb h => ?_) (fun hb h => ?_)
  obtain ⟨⟨hg4_28_0, hg4_28_1⟩, h⟩ := gd h
  refine wgo ?_
  repeat refine cj ?_
  obtain ⟨y4_30, hy4_30, h⟩ := bd h
  have e := stock_order.spec hy4_30
  try simp only [go_sem, List.map_set, rowsD_append, rowsD_cons, rowsD_nil, rowsD_set, rowsD_take, rowsD_drop, rowsD_replicate] at e
  refine aCall_of e ?_
  refine wgo ?_
  repeat refine cj ?_
  refine kIf2 h (fun hb h => ?_) (fun hb h => ?_)
  obtain rfl := Option.some.inj h
  have h := q0
  simp only [Flow.go_ret, Flow.goL_ret] at h
  obtain rfl := Option.some.inj h
  exact fin
  refine wgo ?_
  repeat refine cj ?_
  refine Round.fx (k0, IntKind.i64.wrap (x7_0 + 1)) h (Nat.lt_succ_self k0) ?_
  exact fxs
  refine wgo ?_
  repeat refine cj ?_
  refine Round.fx (k0, IntKind.i64.wrap (x7_0 + 1)) h (Nat.lt_succ_self k0) ?_
  exact fxs
  obtain rfl := Option.some.inj h
  have h := q0
  simp only [Flow.go_ret, Flow.goL_ret] at h
  obtain rfl := Option.some.inj h
  exact fin
  obtain rfl := Option.some.inj h
  have h := q0
  simp only [Flow.go_ret, Flow.goL_ret] at h
  obtain rfl := Option.some.inj h
  exact fin
  obtain rfl := Option.some.inj h
  have h := q0
  simp only [Flow.go_ret, Flow.goL_ret] at h
  obtain rfl := Option.some.inj h
  exact fin
  obtain rfl := Option.some.inj h
  have h := q0
  simp only [Flow.go_out, Flow.goL_out] at h
  try dsimp only at h
  obtain rfl := Option.some.inj h
  exact fin
end Go.Ax

/- The walk of mark_Flows, printed by gen.py. -/
set_option linter.unusedSimpArgs false
set_option linter.unusedVariables false
namespace Go.Ax
open Go Go.Proofs
set_option maxRecDepth 100000
set_option maxHeartbeats 4000000
theorem mark_Flows.spec {a0 : List api_Pos} {a1 : Int} {a2 : Int} {a3 : Int} {r : (List api_Entry) × Int} (h : mark_Flows.f a0 a1 a2 a3 = some r) : FSpec Try.prog 12 [(false, [.l (rowsD api_Pos.D a0)]), (false, [.v (.int .i64 a1)]), (false, [.v (.int .i64 a2)]), (false, [.v (.int .i64 a3)])] [.one (.d (.l (rowsD api_Entry.D r.1))), .one (.d (.v (.int .i64 r.2)))] := by
  unfold mark_Flows.f at h
  refine fspec_data mixed Try.func12 rfl (by decide) [0, 1, 2, 3, 8, 9, 10, 12, 26, 27, 28] (rs := [.tmp 8, .tmp 9]) rfl (by decide) (n := 55) rfl (by simp) ?_
  refine wgo ?_
  repeat refine cj ?_
  obtain ⟨y1_1, hy1_1, h⟩ := bd h
  refine aCall_of (stock_Right.spec hy1_1) ?_
  refine wgo ?_
  repeat refine cj ?_
  refine kIf3 h (fun hb h => ?_) (fun hb h => ?_)
  refine wgo ?_
  repeat refine cj ?_
  obtain ⟨y1_5, hy1_5, h⟩ := bd h
  refine aCall_of (mark_Price.spec hy1_5) ?_
  refine wgo ?_
  repeat refine cj ?_
  refine kIf3 h (fun hb h => ?_) (fun hb h => ?_)
  refine wgo ?_
  repeat refine cj ?_
  obtain ⟨y1_10, hy1_10, h⟩ := bd h
  refine aCall_of (mark_Price.spec hy1_10) ?_
  refine wgo ?_
  repeat refine cj ?_
  refine kIf2 h (fun hb h => ?_) (fun hb h => ?_)
  obtain rfl := Option.some.inj h
  exact fin
  refine wgo ?_
  repeat refine cj ?_
  obtain ⟨s1, h1, q1⟩ := bd h
  rw [aCode_loop]
  refine aLoop_fx (α := Nat × (List api_Entry) × Int) (fun p => (⟨55, [], [(0, .one (.l (rowsD api_Pos.D a0))), (1, .one (.v (.int .i64 a1))), (2, .one (.v (.int .i64 a2))), (3, .one (.v (.int .i64 a3))), (8, .own 4 (rowsD api_Entry.D ([] : List api_Entry))), (9, .one (.v (.int .i64 0))), (10, .own 4 (rowsD api_Entry.D p.2.1)), (12, .none), (26, .one (.l (rowsD api_Pos.D a0))), (27, .one (.v (.int .i64 (a0.length : Int)))), (28, .one (.v (.int .i64 p.2.2)))]⟩ : S)) (fun p => mark_Flows.l0 a0 a1 a2 a3 p.1 p.2.1 p.2.2 = some s1) (fun p => p.1) (FUEL, ([] : List api_Entry), 0) h1 ?_ ?_
  exact fxs
  rintro ⟨k1, x10_1, x28_1⟩ h
  simp only at h
  obtain _ | k1 := k1
  exact absurd h (by simp [mark_Flows.l0])
  rw [mark_Flows.l0] at h
  refine wgo ?_
  repeat refine cj ?_
  refine kIf2 h (fun hb h => ?_) (fun hb h => ?_)
  obtain ⟨⟨hg6_0_0, hg6_0_1⟩, h⟩ := gd h
  refine wgo ?_
  repeat refine cj ?_
  refine kIf2 h (fun hb h => ?_) (fun hb h => ?_)
  refine wgo ?_
  repeat refine cj ?_
  refine kIf2 h (fun hb h => ?_) (fun hb h => ?_)
  refine wgo ?_
  repeat refine cj ?_
  obtain ⟨y8_8, hy8_8, h⟩ := bd h
  refine aCall_of (wide_Mul.spec hy8_8) ?_
  refine wgo ?_
  repeat refine cj ?_
  obtain ⟨y8_9, hy8_9, h⟩ := bd h
  refine aCall_of (mark_entry.spec hy8_9) ?_
  obtain ⟨hg8_11, h⟩ := gd h
  refine wgo ?_
  repeat refine cj ?_
  refine Round.fx (k1, x10_1 ++ ([y8_9]), IntKind.i64.wrap (x28_1 + 1)) h (Nat.lt_succ_self k1) ?_
  exact fxs
  refine wgo ?_
  repeat refine cj ?_
  refine Round.fx (k1, x10_1, IntKind.i64.wrap (x28_1 + 1)) h (Nat.lt_succ_self k1) ?_
  exact fxs
  refine wgo ?_
  repeat refine cj ?_
  refine Round.fx (k1, x10_1, IntKind.i64.wrap (x28_1 + 1)) h (Nat.lt_succ_self k1) ?_
  exact fxs
  obtain rfl := Option.some.inj h
  have h := q1
  try dsimp only at h
  obtain rfl := Option.some.inj h
  exact fin
  obtain rfl := Option.some.inj h
  exact fin
  obtain rfl := Option.some.inj h
  exact fin
end Go.Ax

/- The walk of ledger_Key, printed by gen.py. -/
set_option linter.unusedSimpArgs false
set_option linter.unusedVariables false
namespace Go.Ax
open Go Go.Proofs
set_option maxRecDepth 100000
set_option maxHeartbeats 4000000
theorem ledger_Key.spec {a0 : Int} {a1 : Int} {r : Bool} (h : ledger_Key.f a0 a1 = some r) : FSpec Try.prog 33 [(false, [.v (.int .i64 a0)]), (false, [.v (.int .i64 a1)])] [.one (.d (.v (.bool r)))] := by
  unfold ledger_Key.f at h
  refine fspec_data mixed Try.func33 rfl (by decide) [0, 1, 4, 5, 6, 21] (rs := [.tmp 4]) rfl (by decide) (n := 30) rfl (by simp) ?_
  refine wgo ?_
  repeat refine cj ?_
  refine kIf2 h (fun hb h => ?_) (fun hb h => ?_)
  refine wgo ?_
  repeat refine cj ?_
  refine kIf2 h (fun hb h => ?_) (fun hb h => ?_)
  obtain rfl := Option.some.inj h
  exact fin
  refine wgo ?_
  repeat refine cj ?_
  refine kIf2 h (fun hb h => ?_) (fun hb h => ?_)
  refine wgo ?_
  repeat refine cj ?_
  refine kIf2 h (fun hb h => ?_) (fun hb h => ?_)
  obtain rfl := Option.some.inj h
  exact fin
  obtain rfl := Option.some.inj h
  exact fin
  refine wgo ?_
  repeat refine cj ?_
  refine kIf2 h (fun hb h => ?_) (fun hb h => ?_)
  refine wgo ?_
  repeat refine cj ?_
  refine kIf2 h (fun hb h => ?_) (fun hb h => ?_)
  refine wgo ?_
  repeat refine cj ?_
  refine kIf2 h (fun hb h => ?_) (fun hb h => ?_)
  obtain rfl := Option.some.inj h
  exact fin
  obtain rfl := Option.some.inj h
  exact fin
  obtain rfl := Option.some.inj h
  exact fin
  refine wgo ?_
  repeat refine cj ?_
  refine kIf2 h (fun hb h => ?_) (fun hb h => ?_)
  refine wgo ?_
  repeat refine cj ?_
  refine kIf2 h (fun hb h => ?_) (fun hb h => ?_)
  obtain rfl := Option.some.inj h
  exact fin
  obtain rfl := Option.some.inj h
  exact fin
  obtain rfl := Option.some.inj h
  exact fin
  refine wgo ?_
  repeat refine cj ?_
  refine kIf2 h (fun hb h => ?_) (fun hb h => ?_)
  refine wgo ?_
  repeat refine cj ?_
  refine kIf2 h (fun hb h => ?_) (fun hb h => ?_)
  obtain rfl := Option.some.inj h
  exact fin
  refine wgo ?_
  repeat refine cj ?_
  refine kIf2 h (fun hb h => ?_) (fun hb h => ?_)
  refine wgo ?_
  repeat refine cj ?_
  refine kIf2 h (fun hb h => ?_) (fun hb h => ?_)
  obtain rfl := Option.some.inj h
  exact fin
  obtain rfl := Option.some.inj h
  exact fin
  refine wgo ?_
  repeat refine cj ?_
  refine kIf2 h (fun hb h => ?_) (fun hb h => ?_)
  refine wgo ?_
  repeat refine cj ?_
  refine kIf2 h (fun hb h => ?_) (fun hb h => ?_)
  refine wgo ?_
  repeat refine cj ?_
  refine kIf2 h (fun hb h => ?_) (fun hb h => ?_)
  obtain rfl := Option.some.inj h
  exact fin
  obtain rfl := Option.some.inj h
  exact fin
  obtain rfl := Option.some.inj h
  exact fin
  refine wgo ?_
  repeat refine cj ?_
  refine kIf2 h (fun hb h => ?_) (fun hb h => ?_)
  refine wgo ?_
  repeat refine cj ?_
  refine kIf2 h (fun hb h => ?_) (fun hb h => ?_)
  obtain rfl := Option.some.inj h
  exact fin
  obtain rfl := Option.some.inj h
  exact fin
  obtain rfl := Option.some.inj h
  exact fin
  refine wgo ?_
  repeat refine cj ?_
  refine kIf2 h (fun hb h => ?_) (fun hb h => ?_)
  refine wgo ?_
  repeat refine cj ?_
  refine kIf2 h (fun hb h => ?_) (fun hb h => ?_)
  obtain rfl := Option.some.inj h
  exact fin
  refine wgo ?_
  repeat refine cj ?_
  refine kIf2 h (fun hb h => ?_) (fun hb h => ?_)
  refine wgo ?_
  repeat refine cj ?_
  refine kIf2 h (fun hb h => ?_) (fun hb h => ?_)
  obtain rfl := Option.some.inj h
  exact fin
  obtain rfl := Option.some.inj h
  exact fin
  refine wgo ?_
  repeat refine cj ?_
  refine kIf2 h (fun hb h => ?_) (fun hb h => ?_)
  refine wgo ?_
  repeat refine cj ?_
  refine kIf2 h (fun hb h => ?_) (fun hb h => ?_)
  refine wgo ?_
  repeat refine cj ?_
  refine kIf2 h (fun hb h => ?_) (fun hb h => ?_)
  obtain rfl := Option.some.inj h
  exact fin
  obtain rfl := Option.some.inj h
  exact fin
  obtain rfl := Option.some.inj h
  exact fin
  refine wgo ?_
  repeat refine cj ?_
  refine kIf2 h (fun hb h => ?_) (fun hb h => ?_)
  refine wgo ?_
  repeat refine cj ?_
  refine kIf2 h (fun hb h => ?_) (fun hb h => ?_)
  obtain rfl := Option.some.inj h
  exact fin
  obtain rfl := Option.some.inj h
  exact fin
  obtain rfl := Option.some.inj h
  exact fin
  refine wgo ?_
  repeat refine cj ?_
  refine kIf2 h (fun hb h => ?_) (fun hb h => ?_)
  obtain rfl := Option.some.inj h
  exact fin
  refine wgo ?_
  repeat refine cj ?_
  refine kIf2 h (fun hb h => ?_) (fun hb h => ?_)
  refine wgo ?_
  repeat refine cj ?_
  refine kIf2 h (fun hb h => ?_) (fun hb h => ?_)
  obtain rfl := Option.some.inj h
  exact fin
  obtain rfl := Option.some.inj h
  exact fin
  refine wgo ?_
  repeat refine cj ?_
  refine kIf2 h (fun hb h => ?_) (fun hb h => ?_)
  refine wgo ?_
  repeat refine cj ?_
  refine kIf2 h (fun hb h => ?_) (fun hb h => ?_)
  refine wgo ?_
  repeat refine cj ?_
  refine kIf2 h (fun hb h => ?_) (fun hb h => ?_)
  obtain rfl := Option.some.inj h
  exact fin
  obtain rfl := Option.some.inj h
  exact fin
  obtain rfl := Option.some.inj h
  exact fin
  refine wgo ?_
  repeat refine cj ?_
  refine kIf2 h (fun hb h => ?_) (fun hb h => ?_)
  refine wgo ?_
  repeat refine cj ?_
  refine kIf2 h (fun hb h => ?_) (fun hb h => ?_)
  obtain rfl := Option.some.inj h
  exact fin
  obtain rfl := Option.some.inj h
  exact fin
  obtain rfl := Option.some.inj h
  exact fin
end Go.Ax

/- The walk of mark_GainsRight, printed by gen.py. -/
set_option linter.unusedSimpArgs false
set_option linter.unusedVariables false
namespace Go.Ax
open Go Go.Proofs
set_option maxRecDepth 100000
set_option maxHeartbeats 4000000
theorem mark_GainsRight.spec {a0 : List api_Gain} {r : Bool} (h : mark_GainsRight.f a0 = some r) : FSpec Try.prog 17 [(false, [.l (rowsD api_Gain.D a0)])] [.one (.d (.v (.bool r)))] := by
  unfold mark_GainsRight.f at h
  refine fspec_data mixed Try.func17 rfl (by decide) [0, 2, 3, 4, 5, 6, 7] (rs := [.tmp 2]) rfl (by decide) (n := 41) rfl (by simp) ?_
  refine wgo ?_
  repeat refine cj ?_
  obtain ⟨f0, h0, q0⟩ := bd h
  rw [aCode_loop]
  refine aLoop_fx (α := Nat × Int) (fun p => (⟨41, [], [(0, .one (.l (rowsD api_Gain.D a0))), (2, .one (.v (.bool false))), (3, .none), (4, .none), (5, .one (.l (rowsD api_Gain.D a0))), (6, .one (.v (.int .i64 (a0.length : Int)))), (7, .one (.v (.int .i64 p.2)))]⟩ : S)) (fun p => mark_GainsRight.l0 a0 p.1 p.2 = some f0) (fun p => p.1) (FUEL, 0) h0 ?_ ?_
  exact fxs
  rintro ⟨k0, x7_0⟩ h
  simp only at h
  obtain _ | k0 := k0
  exact absurd h (by simp [mark_GainsRight.l0])
  rw [mark_GainsRight.l0] at h
  refine wgo ?_
  repeat refine cj ?_
  refine kIf2 h (fun hb h => ?_) (fun hb h => ?_)
  obtain ⟨⟨hg3_1_0, hg3_1_1⟩, h⟩ := gd h
  refine wgo ?_
  repeat refine cj ?_
  refine kIf3 h (fun hb h => ?_) (fun hb h => ?_)
  refine wgo ?_
  repeat refine cj ?_
  refine kIf3 h (fun hb h => ?_) (fun hb h => ?_)
  refine wgo ?_
  repeat refine cj ?_
  refine kIf3 h (fun hb h => ?_) (fun hb h => ?_)
  refine wgo ?_
  repeat refine cj ?_
  refine kIf2 h (fun hb h => ?_) (fun hb h => ?_)
  obtain ⟨⟨hg4_20_0, hg4_20_1⟩, h⟩ := gd h
  refine wgo ?_
  repeat refine cj ?_
  refine kIf2 h (fun hb h => ?_) (fun hb h => ?_)
  obtain rfl := Option.some.inj h
  have h := q0
  simp only [Flow.go_ret, Flow.goL_ret] at h
  obtain rfl := Option.some.inj h
  exact fin
  refine wgo ?_
  repeat refine cj ?_
  refine Round.fx (k0, IntKind.i64.wrap (x7_0 + 1)) h (Nat.lt_succ_self k0) ?_
  exact fxs
  refine wgo ?_
  repeat refine cj ?_
  refine Round.fx (k0, IntKind.i64.wrap (x7_0 + 1)) h (Nat.lt_succ_self k0) ?_
  exact fxs
  obtain rfl := Option.some.inj h
  have h := q0
  simp only [Flow.go_ret, Flow.goL_ret] at h
  obtain rfl := Option.some.inj h
  exact fin
  obtain rfl := Option.some.inj h
  have h := q0
  simp only [Flow.go_ret, Flow.goL_ret] at h
  obtain rfl := Option.some.inj h
  exact fin
  obtain rfl := Option.some.inj h
  have h := q0
  simp only [Flow.go_ret, Flow.goL_ret] at h
  obtain rfl := Option.some.inj h
  exact fin
  obtain rfl := Option.some.inj h
  have h := q0
  simp only [Flow.go_out, Flow.goL_out] at h
  try dsimp only at h
  obtain rfl := Option.some.inj h
  exact fin
end Go.Ax

/- The walk of mark_Gains, printed by gen.py. -/
set_option linter.unusedSimpArgs false
set_option linter.unusedVariables false
namespace Go.Ax
open Go Go.Proofs
set_option maxRecDepth 100000
set_option maxHeartbeats 4000000
theorem mark_Gains.spec {a0 : List api_Gain} {a1 : List api_Entry} {r : (List api_Gain) × Int} (h : mark_Gains.f a0 a1 = some r) : FSpec Try.prog 16 [(false, [.l (rowsD api_Gain.D a0)]), (false, [.l (rowsD api_Entry.D a1)])] [.one (.d (.l (rowsD api_Gain.D r.1))), .one (.d (.v (.int .i64 r.2)))] := by
  unfold mark_Gains.f at h
  refine fspec_data mixed Try.func16 rfl (by decide) [0, 1, 4, 5, 6, 8, 10, 11, 12, 13, 14, 15, 16, 17, 26, 27, 28, 45, 46, 47, 74, 75] (rs := [.tmp 4, .tmp 5]) rfl (by decide) (n := 105) rfl (by simp) ?_
  refine wgo ?_
  repeat refine cj ?_
  obtain ⟨y1_1, hy1_1, h⟩ := bd h
  refine aCall_of (mark_GainsRight.spec hy1_1) ?_
  refine wgo ?_
  repeat refine cj ?_
  refine kIf3 h (fun hb h => ?_) (fun hb h => ?_)
  refine wgo ?_
  repeat refine cj ?_
  refine kIf2 h (fun hb h => ?_) (fun hb h => ?_)
  obtain rfl := Option.some.inj h
  exact fin
  refine wgo ?_
  repeat refine cj ?_
  obtain ⟨s1, h1, q1⟩ := bd h
  rw [aCode_loop]
  refine aLoop_fx (α := Nat × (List (List Int)) × Int) (fun p => (⟨105, [], [(0, .one (.l (rowsD api_Gain.D a0))), (1, .one (.l (rowsD api_Entry.D a1))), (4, .own 2 (rowsD api_Gain.D ([] : List api_Gain))), (5, .one (.v (.int .i64 0))), (6, .box (List.map (fun x => Leaf.own 2 (rowsD wD x)) p.2.1)), (8, .none), (10, .none), (11, .none), (12, .none), (13, .none), (14, .none), (15, .none), (16, .none), (17, .none), (26, .one (.l (rowsD api_Gain.D a0))), (27, .one (.v (.int .i64 (a0.length : Int)))), (28, .one (.v (.int .i64 p.2.2))), (45, .none), (46, .none), (47, .none), (74, .none), (75, .none)]⟩ : S)) (fun p => mark_Gains.l0 a0 p.1 p.2.1 p.2.2 = some s1) (fun p => p.1) (FUEL, ([[], [], [], [], [], [], [], [], [], [], [], [], [], [], [], [], [], [], [], [], [], [], [], [], []] : List (List Int)), 0) h1 ?_ ?_
  exact fxs
  rintro ⟨k1, x6_1, x28_1⟩ h
  simp only at h
  obtain _ | k1 := k1
  exact absurd h (by simp [mark_Gains.l0])
  rw [mark_Gains.l0] at h
  refine wgo ?_
  repeat refine cj ?_
  refine kIf2 h (fun hb h => ?_) (fun hb h => ?_)
  obtain ⟨⟨hg6_0_0, hg6_0_1⟩, h⟩ := gd h
  obtain ⟨⟨hg7_4_0, hg7_4_1⟩, h⟩ := gd h
  obtain ⟨hg7_4l, h⟩ := gd h
  have ha0 := arr_get (fun x => Leaf.own 2 (rowsD wD x)) x6_1 (i := (rd a0 x28_1).Acc) (by omega) (by omega)
  have hs0 := fun z => arr_put (fun x => Leaf.own 2 (rowsD wD x)) x6_1 (i := (rd a0 x28_1).Acc) z (by omega) (by omega)
  have hu0 := fun z => arr_put2 (fun x => Leaf.own 2 (rowsD wD x)) x6_1 (i := (rd a0 x28_1).Acc) z (by omega) (by omega)
  try simp (maxSteps := 2000000) only [go_sem, p_kSeq, ↓reduceIte, reduceCtorEq, Nat.reduceLT, Nat.reduceLeDiff, Nat.reduceEqDiff, Nat.reduceMul, Nat.reduceAdd, Nat.reduceSub, Int.reduceLE, Int.reduceLT, ha0, hs0, hu0]
  repeat refine cj ?_
  obtain ⟨y7_8, hy7_8, h⟩ := bd h
  refine aCall_of (wide_Of.spec hy7_8) ?_
  obtain ⟨hg7_10, h⟩ := gd h
  have ha3 := arr_get (fun x => Leaf.own 2 (rowsD wD x)) x6_1 (i := (rd a0 x28_1).Acc) (by omega) (by omega)
  have hs3 := fun z => arr_put (fun x => Leaf.own 2 (rowsD wD x)) x6_1 (i := (rd a0 x28_1).Acc) z (by omega) (by omega)
  have hu3 := fun z => arr_put2 (fun x => Leaf.own 2 (rowsD wD x)) x6_1 (i := (rd a0 x28_1).Acc) z (by omega) (by omega)
  try simp (maxSteps := 2000000) only [go_sem, p_kSeq, ↓reduceIte, reduceCtorEq, Nat.reduceLT, Nat.reduceLeDiff, Nat.reduceEqDiff, Nat.reduceMul, Nat.reduceAdd, Nat.reduceSub, Int.reduceLE, Int.reduceLT, ha0, hs0, hu0, ha3, hs3, hu3]
  repeat refine cj ?_
  refine Round.fx (k1, x6_1.set (rd a0 x28_1).Acc.toNat ((rd x6_1 (rd a0 x28_1).Acc) ++ ([y7_8])), IntKind.i64.wrap (x28_1 + 1)) h (Nat.lt_succ_self k1) ?_
  exact fxs
  obtain rfl := Option.some.inj h
  have h := q1
  try dsimp only at h
  refine wgo ?_
  repeat refine cj ?_
  obtain ⟨f3, h3, q3⟩ := bd h
  rw [aCode_loop]
  refine aLoop_fx (α := Nat × (List (List Int)) × Int) (fun p => (⟨105, [], [(0, .one (.l (rowsD api_Gain.D a0))), (1, .one (.l (rowsD api_Entry.D a1))), (4, .own 2 (rowsD api_Gain.D ([] : List api_Gain))), (5, .one (.v (.int .i64 0))), (6, .box (List.map (fun x => Leaf.own 2 (rowsD wD x)) p.2.1)), (8, .none), (10, .none), (11, .none), (12, .none), (13, .none), (14, .none), (15, .none), (16, .none), (17, .none), (26, .one (.l (rowsD api_Gain.D a0))), (27, .one (.v (.int .i64 (a0.length : Int)))), (28, .one (.v (.int .i64 x28_1))), (45, .one (.l (rowsD api_Entry.D a1))), (46, .one (.v (.int .i64 (a1.length : Int)))), (47, .one (.v (.int .i64 p.2.2))), (74, .none), (75, .none)]⟩ : S)) (fun p => mark_Gains.l1 a1 p.1 p.2.1 p.2.2 = some f3) (fun p => p.1) (FUEL, x6_1, 0) h3 ?_ ?_
  exact fxs
  rintro ⟨k3, x6_3, x47_3⟩ h
  simp only at h
  obtain _ | k3 := k3
  exact absurd h (by simp [mark_Gains.l1])
  rw [mark_Gains.l1] at h
  refine wgo ?_
  repeat refine cj ?_
  refine kIf2 h (fun hb h => ?_) (fun hb h => ?_)
  obtain ⟨⟨hg11_0_0, hg11_0_1⟩, h⟩ := gd h
  refine wgo ?_
  repeat refine cj ?_
  obtain ⟨y12_4, hy12_4, h⟩ := bd h
  refine aCall_of (ledger_Key.spec hy12_4) ?_
  refine wgo ?_
  repeat refine cj ?_
  refine kIf2 h (fun hb h => ?_) (fun hb h => ?_)
  obtain rfl := Option.some.inj h
  have h := q3
  simp only [Flow.go_ret, Flow.goL_ret] at h
  obtain rfl := Option.some.inj h
  exact fin
  refine wgo ?_
  repeat refine cj ?_
  refine kIf2 h (fun hb h => ?_) (fun hb h => ?_)
  obtain ⟨⟨hg15_4_0, hg15_4_1⟩, h⟩ := gd h
  obtain ⟨hg15_4l, h⟩ := gd h
  have ha0 := arr_get (fun x => Leaf.own 2 (rowsD wD x)) x6_3 (i := (rd a1 x47_3).N) (by omega) (by omega)
  have hs0 := fun z => arr_put (fun x => Leaf.own 2 (rowsD wD x)) x6_3 (i := (rd a1 x47_3).N) z (by omega) (by omega)
  have hu0 := fun z => arr_put2 (fun x => Leaf.own 2 (rowsD wD x)) x6_3 (i := (rd a1 x47_3).N) z (by omega) (by omega)
  obtain ⟨hg15_9, h⟩ := gd h
  have ha3 := arr_get (fun x => Leaf.own 2 (rowsD wD x)) x6_3 (i := (rd a1 x47_3).N) (by omega) (by omega)
  have hs3 := fun z => arr_put (fun x => Leaf.own 2 (rowsD wD x)) x6_3 (i := (rd a1 x47_3).N) z (by omega) (by omega)
  have hu3 := fun z => arr_put2 (fun x => Leaf.own 2 (rowsD wD x)) x6_3 (i := (rd a1 x47_3).N) z (by omega) (by omega)
  try simp (maxSteps := 2000000) only [go_sem, p_kSeq, ↓reduceIte, reduceCtorEq, Nat.reduceLT, Nat.reduceLeDiff, Nat.reduceEqDiff, Nat.reduceMul, Nat.reduceAdd, Nat.reduceSub, Int.reduceLE, Int.reduceLT, ha0, hs0, hu0, ha3, hs3, hu3]
  repeat refine cj ?_
  refine Round.fx (k3, x6_3.set (rd a1 x47_3).N.toNat ((rd x6_3 (rd a1 x47_3).N) ++ ([(rd a1 x47_3).X])), IntKind.i64.wrap (x47_3 + 1)) h (Nat.lt_succ_self k3) ?_
  exact fxs
  refine wgo ?_
  repeat refine cj ?_
  refine Round.fx (k3, x6_3, IntKind.i64.wrap (x47_3 + 1)) h (Nat.lt_succ_self k3) ?_
  exact fxs
  obtain rfl := Option.some.inj h
  have h := q3
  simp only [Flow.go_out, Flow.goL_out] at h
  try dsimp only at h
  obtain ⟨hg18_0l, h⟩ := gd h
  have hz0 := arr_frz 2 (fun x => rowsD wD x) x6_3 (n := 25) (by assumption)
  have hl0 := arr_leaf (fun x => D.l (rowsD wD x)) x6_3 (n := 25) (by assumption)
  have ht0 := arr_take (fun x => D.l (rowsD wD x)) x6_3 (n := 25) (by assumption)
  have hn0 : 25 ≤ x6_3.length := by omega
  try simp (maxSteps := 2000000) only [go_sem, p_kSeq, ↓reduceIte, reduceCtorEq, Nat.reduceLT, Nat.reduceLeDiff, Nat.reduceEqDiff, Nat.reduceMul, Nat.reduceAdd, Nat.reduceSub, Int.reduceLE, Int.reduceLT, hz0, hl0, ht0, hn0]
  repeat refine cj ?_
  obtain ⟨f7, h7, q7⟩ := bd h
  rw [aCode_loop]
  refine aLoop_fx (α := Nat × (List api_Gain) × Int) (fun p => (⟨105, [], [(0, .one (.l (rowsD api_Gain.D a0))), (1, .one (.l (rowsD api_Entry.D a1))), (4, .own 2 (rowsD api_Gain.D ([] : List api_Gain))), (5, .one (.v (.int .i64 0))), (6, .box (List.map (fun x => Leaf.d ((fun x => D.l (rowsD wD x)) x)) x6_3)), (8, .none), (10, .none), (11, .own 2 (rowsD api_Gain.D p.2.1)), (12, .none), (13, .none), (14, .none), (15, .none), (16, .none), (17, .none), (26, .one (.l (rowsD api_Gain.D a0))), (27, .one (.v (.int .i64 (a0.length : Int)))), (28, .one (.v (.int .i64 x28_1))), (45, .one (.l (rowsD api_Entry.D a1))), (46, .one (.v (.int .i64 (a1.length : Int)))), (47, .one (.v (.int .i64 x47_3))), (74, .agg (List.map (fun x => D.l (rowsD wD x)) x6_3)), (75, .one (.v (.int .i64 p.2.2)))]⟩ : S)) (fun p => mark_Gains.l2 (x6_3, x47_3) p.1 p.2.1 p.2.2 = some f7) (fun p => p.1) (FUEL, ([] : List api_Gain), 0) h7 ?_ ?_
  exact fxs
  rintro ⟨k7, x11_7, x75_7⟩ h
  simp only at h
  obtain _ | k7 := k7
  exact absurd h (by simp [mark_Gains.l2])
  rw [mark_Gains.l2] at h
  try dsimp only at h
  try simp (maxSteps := 2000000) only [go_sem, p_kSeq, ↓reduceIte, reduceCtorEq, Nat.reduceLT, Nat.reduceLeDiff, Nat.reduceEqDiff, Nat.reduceMul, Nat.reduceAdd, Nat.reduceSub, Int.reduceLE, Int.reduceLT, hz0, hl0, ht0, hn0]
  repeat refine cj ?_
  refine kIf2 h (fun hb h => ?_) (fun hb h => ?_)
  obtain ⟨⟨hg20_1_0, hg20_1_1⟩, h⟩ := gd h
  obtain ⟨hg20_1l, h⟩ := gd h
  have ha4 := arr_get (fun x => D.l (rowsD wD x)) x6_3 (i := x75_7) (by omega) (by omega)
  have hs4 := fun z => arr_put (fun x => D.l (rowsD wD x)) x6_3 (i := x75_7) z (by omega) (by omega)
  have hu4 := fun z => arr_put2 (fun x => D.l (rowsD wD x)) x6_3 (i := x75_7) z (by omega) (by omega)
  try simp (maxSteps := 2000000) only [go_sem, p_kSeq, ↓reduceIte, reduceCtorEq, Nat.reduceLT, Nat.reduceLeDiff, Nat.reduceEqDiff, Nat.reduceMul, Nat.reduceAdd, Nat.reduceSub, Int.reduceLE, Int.reduceLT, hz0, hl0, ht0, hn0, ha4, hs4, hu4]
  repeat refine cj ?_
  obtain ⟨y21_1, hy21_1, h⟩ := bd h
  have e := wide_Sum.spec hy21_1
  try simp only [go_sem, List.map_set, rowsD_append, rowsD_cons, rowsD_nil, rowsD_set, rowsD_take, rowsD_drop, rowsD_replicate] at e
  refine aCall_of e ?_
  try simp (maxSteps := 2000000) only [go_sem, p_kSeq, ↓reduceIte, reduceCtorEq, Nat.reduceLT, Nat.reduceLeDiff, Nat.reduceEqDiff, Nat.reduceMul, Nat.reduceAdd, Nat.reduceSub, Int.reduceLE, Int.reduceLT, hz0, hl0, ht0, hn0, ha4, hs4, hu4]
  repeat refine cj ?_
  obtain ⟨y22_1, hy22_1, h⟩ := bd h
  refine aCall_of (wide_Int.spec hy22_1) ?_
  try simp (maxSteps := 2000000) only [go_sem, p_kSeq, ↓reduceIte, reduceCtorEq, Nat.reduceLT, Nat.reduceLeDiff, Nat.reduceEqDiff, Nat.reduceMul, Nat.reduceAdd, Nat.reduceSub, Int.reduceLE, Int.reduceLT, hz0, hl0, ht0, hn0, ha4, hs4, hu4]
  repeat refine cj ?_
  refine kIf3 h (fun hb h => ?_) (fun hb h => ?_)
  try simp (maxSteps := 2000000) only [go_sem, p_kSeq, ↓reduceIte, reduceCtorEq, Nat.reduceLT, Nat.reduceLeDiff, Nat.reduceEqDiff, Nat.reduceMul, Nat.reduceAdd, Nat.reduceSub, Int.reduceLE, Int.reduceLT, hz0, hl0, ht0, hn0, ha4, hs4, hu4]
  repeat refine cj ?_
  refine kIf2 h (fun hb h => ?_) (fun hb h => ?_)
  obtain rfl := Option.some.inj h
  have h := q7
  simp only [Flow.go_ret, Flow.goL_ret] at h
  obtain rfl := Option.some.inj h
  (try simp (maxSteps := 2000000) only [go_sem, p_kSeq, ↓reduceIte, reduceCtorEq, Nat.reduceLT, Nat.reduceLeDiff, Nat.reduceEqDiff, Nat.reduceMul, Nat.reduceAdd, Nat.reduceSub, Int.reduceLE, Int.reduceLT, hz0, hl0, ht0, hn0, ha4, hs4, hu4]) <;> first | rfl | ((repeat (first | refine And.intro (by first | assumption | (show chk _ _ _ = true; kernel_rfl) | (show isSl _ _ = true; kernel_rfl) | omega | (simp; done)) ?_ | rfl | omega | simp only [rowsD_append, rowsD_cons, rowsD_nil, rowsD_set, rowsD_take, rowsD_drop, rowsD_replicate])); done) | (simp only [List.map_set, rowsD_append, rowsD_cons, rowsD_nil, rowsD_set, rowsD_take, rowsD_drop, rowsD_replicate]; done) | (simp only [List.map_set, rowsD_append, rowsD_cons, rowsD_nil, rowsD_set, rowsD_take, rowsD_drop, rowsD_replicate]; rfl) | (simp; done)
  try simp (maxSteps := 2000000) only [go_sem, p_kSeq, ↓reduceIte, reduceCtorEq, Nat.reduceLT, Nat.reduceLeDiff, Nat.reduceEqDiff, Nat.reduceMul, Nat.reduceAdd, Nat.reduceSub, Int.reduceLE, Int.reduceLT, hz0, hl0, ht0, hn0, ha4, hs4, hu4]
  repeat refine cj ?_
  refine kIf2 h (fun hb h => ?_) (fun hb h => ?_)
  obtain ⟨hg26_5, h⟩ := gd h
  try simp (maxSteps := 2000000) only [go_sem, p_kSeq, ↓reduceIte, reduceCtorEq, Nat.reduceLT, Nat.reduceLeDiff, Nat.reduceEqDiff, Nat.reduceMul, Nat.reduceAdd, Nat.reduceSub, Int.reduceLE, Int.reduceLT, hz0, hl0, ht0, hn0, ha4, hs4, hu4]
  repeat refine cj ?_
  refine Round.fx (k7, x11_7 ++ ([(⟨x75_7, y22_1.1⟩ : api_Gain)]), IntKind.i64.wrap (x75_7 + 1)) h (Nat.lt_succ_self k7) ?_
  exact fxs
  try simp (maxSteps := 2000000) only [go_sem, p_kSeq, ↓reduceIte, reduceCtorEq, Nat.reduceLT, Nat.reduceLeDiff, Nat.reduceEqDiff, Nat.reduceMul, Nat.reduceAdd, Nat.reduceSub, Int.reduceLE, Int.reduceLT, hz0, hl0, ht0, hn0, ha4, hs4, hu4]
  repeat refine cj ?_
  refine Round.fx (k7, x11_7, IntKind.i64.wrap (x75_7 + 1)) h (Nat.lt_succ_self k7) ?_
  exact fxs
  obtain rfl := Option.some.inj h
  have h := q7
  simp only [Flow.go_ret, Flow.goL_ret] at h
  obtain rfl := Option.some.inj h
  (try simp (maxSteps := 2000000) only [go_sem, p_kSeq, ↓reduceIte, reduceCtorEq, Nat.reduceLT, Nat.reduceLeDiff, Nat.reduceEqDiff, Nat.reduceMul, Nat.reduceAdd, Nat.reduceSub, Int.reduceLE, Int.reduceLT, hz0, hl0, ht0, hn0, ha4, hs4, hu4]) <;> first | rfl | ((repeat (first | refine And.intro (by first | assumption | (show chk _ _ _ = true; kernel_rfl) | (show isSl _ _ = true; kernel_rfl) | omega | (simp; done)) ?_ | rfl | omega | simp only [rowsD_append, rowsD_cons, rowsD_nil, rowsD_set, rowsD_take, rowsD_drop, rowsD_replicate])); done) | (simp only [List.map_set, rowsD_append, rowsD_cons, rowsD_nil, rowsD_set, rowsD_take, rowsD_drop, rowsD_replicate]; done) | (simp only [List.map_set, rowsD_append, rowsD_cons, rowsD_nil, rowsD_set, rowsD_take, rowsD_drop, rowsD_replicate]; rfl) | (simp; done)
  obtain rfl := Option.some.inj h
  have h := q7
  simp only [Flow.go_out, Flow.goL_out] at h
  try dsimp only at h
  obtain rfl := Option.some.inj h
  (try simp (maxSteps := 2000000) only [go_sem, p_kSeq, ↓reduceIte, reduceCtorEq, Nat.reduceLT, Nat.reduceLeDiff, Nat.reduceEqDiff, Nat.reduceMul, Nat.reduceAdd, Nat.reduceSub, Int.reduceLE, Int.reduceLT, hz0, hl0, ht0, hn0]) <;> first | rfl | ((repeat (first | refine And.intro (by first | assumption | (show chk _ _ _ = true; kernel_rfl) | (show isSl _ _ = true; kernel_rfl) | omega | (simp; done)) ?_ | rfl | omega | simp only [rowsD_append, rowsD_cons, rowsD_nil, rowsD_set, rowsD_take, rowsD_drop, rowsD_replicate])); done) | (simp only [List.map_set, rowsD_append, rowsD_cons, rowsD_nil, rowsD_set, rowsD_take, rowsD_drop, rowsD_replicate]; done) | (simp only [List.map_set, rowsD_append, rowsD_cons, rowsD_nil, rowsD_set, rowsD_take, rowsD_drop, rowsD_replicate]; rfl) | (simp; done)
  obtain rfl := Option.some.inj h
  exact fin
end Go.Ax

/- The walk of novationhelp_Gains, printed by gen.py. -/
set_option linter.unusedSimpArgs false
set_option linter.unusedVariables false
namespace Go.Ax
open Go Go.Proofs
set_option maxRecDepth 100000
set_option maxHeartbeats 4000000
theorem novationhelp_Gains.spec {a0 : List api_Gain} {a1 : List api_Gain} {r : Bool} (h : novationhelp_Gains.f a0 a1 = some r) : FSpec Try.prog 20 [(false, [.l (rowsD api_Gain.D a0)]), (false, [.l (rowsD api_Gain.D a1)])] [.one (.d (.v (.bool r)))] := by
  unfold novationhelp_Gains.f at h
  refine fspec_data mixed Try.func20 rfl (by decide) [0, 1, 4, 5] (rs := [.tmp 4]) rfl (by decide) (n := 26) rfl (by simp) ?_
  refine wgo ?_
  repeat refine cj ?_
  refine kIf2 h (fun hb h => ?_) (fun hb h => ?_)
  obtain rfl := Option.some.inj h
  exact fin
  refine wgo ?_
  repeat refine cj ?_
  obtain ⟨f1, h1, q1⟩ := bd h
  rw [aCode_loop]
  refine aLoop_fx (α := Nat × Int) (fun p => (⟨26, [], [(0, .one (.l (rowsD api_Gain.D a0))), (1, .one (.l (rowsD api_Gain.D a1))), (4, .one (.v (.bool false))), (5, .one (.v (.int .i64 p.2)))]⟩ : S)) (fun p => novationhelp_Gains.l0 a0 a1 p.1 p.2 = some f1) (fun p => p.1) (FUEL, 0) h1 ?_ ?_
  exact fxs
  rintro ⟨k1, x5_1⟩ h
  simp only at h
  obtain _ | k1 := k1
  exact absurd h (by simp [novationhelp_Gains.l0])
  rw [novationhelp_Gains.l0] at h
  refine wgo ?_
  repeat refine cj ?_
  refine kIf2 h (fun hb h => ?_) (fun hb h => ?_)
  obtain ⟨⟨hg6_2_0, hg6_2_1⟩, h⟩ := gd h
  obtain ⟨⟨hg6_6_0, hg6_6_1⟩, h⟩ := gd h
  refine wgo ?_
  repeat refine cj ?_
  refine kIf2 h (fun hb h => ?_) (fun hb h => ?_)
  obtain rfl := Option.some.inj h
  have h := q1
  simp only [Flow.go_ret, Flow.goL_ret] at h
  obtain rfl := Option.some.inj h
  exact fin
  refine wgo ?_
  repeat refine cj ?_
  refine Round.fx (k1, IntKind.i64.wrap (x5_1 + 1)) h (Nat.lt_succ_self k1) ?_
  exact fxs
  obtain rfl := Option.some.inj h
  have h := q1
  simp only [Flow.go_out, Flow.goL_out] at h
  try dsimp only at h
  obtain rfl := Option.some.inj h
  exact fin
end Go.Ax

/- The walk of novationlaw15_known, printed by gen.py. -/
set_option linter.unusedSimpArgs false
set_option linter.unusedVariables false
namespace Go.Ax
open Go Go.Proofs
set_option maxRecDepth 100000
set_option maxHeartbeats 4000000
theorem novationlaw15_known.spec {r : Bool} (h : novationlaw15_known.f = some r) : FSpec Try.prog 11 [] [.one (.d (.v (.bool r)))] := by
  unfold novationlaw15_known.f at h
  refine fspec_data mixed Try.func11 rfl (by decide) [0, 1, 2, 3, 4, 5, 6, 7] (rs := [.tmp 0]) rfl (by decide) (n := 93) rfl (by simp) ?_
  refine wgo ?_
  repeat refine cj ?_
  obtain ⟨y2_1, hy2_1, h⟩ := bd h
  refine aCall_of (mark_Trade.spec hy2_1) ?_
  refine wgo ?_
  repeat refine cj ?_
  obtain ⟨y3_3, hy3_3, h⟩ := bd h
  have e := mark_Flows.spec hy3_3
  try simp only [go_sem, List.map_set, rowsD_append, rowsD_cons, rowsD_nil, rowsD_set, rowsD_take, rowsD_drop, rowsD_replicate] at e
  refine aCall_of e ?_
  refine wgo ?_
  repeat refine cj ?_
  obtain ⟨y4_1, hy4_1, h⟩ := bd h
  refine aCall_of (mark_Gains.spec hy4_1) ?_
  refine wgo ?_
  repeat refine cj ?_
  refine kIf2 h (fun hb h => ?_) (fun hb h => ?_)
  refine wgo ?_
  repeat refine cj ?_
  refine kIf2 h (fun hb h => ?_) (fun hb h => ?_)
  obtain ⟨⟨hg5_9_0, hg5_9_1⟩, h⟩ := gd h
  refine wgo ?_
  repeat refine cj ?_
  obtain ⟨y5_11, hy5_11, h⟩ := bd h
  refine aCall_of (wide_Of.spec hy5_11) ?_
  refine wgo ?_
  repeat refine cj ?_
  refine kIf2 h (fun hb h => ?_) (fun hb h => ?_)
  obtain ⟨⟨hg5_17_0, hg5_17_1⟩, h⟩ := gd h
  refine wgo ?_
  repeat refine cj ?_
  obtain ⟨y5_20, hy5_20, h⟩ := bd h
  refine aCall_of (wide_Of.spec hy5_20) ?_
  refine wgo ?_
  repeat refine cj ?_
  refine kIf2 h (fun hb h => ?_) (fun hb h => ?_)
  refine wgo ?_
  repeat refine cj ?_
  refine kIf2 h (fun hb h => ?_) (fun hb h => ?_)
  refine wgo ?_
  repeat refine cj ?_
  refine kIf2 h (fun hb h => ?_) (fun hb h => ?_)
  refine wgo ?_
  repeat refine cj ?_
  refine kIf2 h (fun hb h => ?_) (fun hb h => ?_)
  obtain ⟨⟨hg5_42_0, hg5_42_1⟩, h⟩ := gd h
  refine wgo ?_
  repeat refine cj ?_
  obtain ⟨y5_44, hy5_44, h⟩ := bd h
  refine aCall_of (wide_Of.spec hy5_44) ?_
  refine wgo ?_
  repeat refine cj ?_
  refine kIf2 h (fun hb h => ?_) (fun hb h => ?_)
  refine wgo ?_
  repeat refine cj ?_
  refine kIf2 h (fun hb h => ?_) (fun hb h => ?_)
  refine wgo ?_
  repeat refine cj ?_
  obtain ⟨y5_57, hy5_57, h⟩ := bd h
  have e := novationhelp_Gains.spec hy5_57
  try simp only [go_sem, List.map_set, rowsD_append, rowsD_cons, rowsD_nil, rowsD_set, rowsD_take, rowsD_drop, rowsD_replicate] at e
  refine aCall_of e ?_
  refine wgo ?_
  repeat refine cj ?_
  refine kIf2 h (fun hb h => ?_) (fun hb h => ?_)
  refine wgo ?_
  repeat refine cj ?_
  obtain ⟨y5_61, hy5_61, h⟩ := bd h
  refine aCall_of (mark_Right.spec hy5_61) ?_
  refine wgo ?_
  repeat refine cj ?_
  refine kIf2 h (fun hb h => ?_) (fun hb h => ?_)
  refine wgo ?_
  repeat refine cj ?_
  obtain ⟨y5_65, hy5_65, h⟩ := bd h
  refine aCall_of (mark_GainsRight.spec hy5_65) ?_
  obtain rfl := Option.some.inj h
  exact fin
  obtain rfl := Option.some.inj h
  exact fin
  obtain rfl := Option.some.inj h
  exact fin
  obtain rfl := Option.some.inj h
  exact fin
  obtain rfl := Option.some.inj h
  exact fin
  obtain rfl := Option.some.inj h
  exact fin
  obtain rfl := Option.some.inj h
  exact fin
  obtain rfl := Option.some.inj h
  exact fin
  obtain rfl := Option.some.inj h
  exact fin
  obtain rfl := Option.some.inj h
  exact fin
  obtain rfl := Option.some.inj h
  exact fin
  obtain rfl := Option.some.inj h
  exact fin
end Go.Ax

/- The walk of novationref15_price, printed by gen.py. -/
set_option linter.unusedSimpArgs false
set_option linter.unusedVariables false
namespace Go.Ax
open Go Go.Proofs
set_option maxRecDepth 100000
set_option maxHeartbeats 4000000
theorem novationref15_price.spec {a0 : Int} {r : Bool} (h : novationref15_price.f a0 = some r) : FSpec Try.prog 66 [(false, [.v (.int .i64 a0)])] [.one (.d (.v (.bool r)))] := by
  unfold novationref15_price.f at h
  refine fspec_data mixed Try.func66 rfl (by decide) [0, 2] (rs := [.tmp 2]) rfl (by decide) (n := 9) rfl (by simp) ?_
  refine wgo ?_
  repeat refine cj ?_
  refine kIf2 h (fun hb h => ?_) (fun hb h => ?_)
  obtain rfl := Option.some.inj h
  exact fin
  obtain rfl := Option.some.inj h
  exact fin
end Go.Ax

/- The walk of novationref15_RightTrade, printed by gen.py. -/
set_option linter.unusedSimpArgs false
set_option linter.unusedVariables false
namespace Go.Ax
open Go Go.Proofs
set_option maxRecDepth 100000
set_option maxHeartbeats 4000000
theorem novationref15_RightTrade.spec {a0 : api_Trade} {r : Bool} (h : novationref15_RightTrade.f a0 = some r) : FSpec Try.prog 29 [(true, api_Trade.D a0)] [.one (.d (.v (.bool r)))] := by
  unfold novationref15_RightTrade.f at h
  refine fspec_data mixed Try.func29 rfl (by decide) [0, 1, 2] (rs := [.tmp 2]) rfl (by decide) (n := 53) rfl (by simp) ?_
  refine wgo ?_
  repeat refine cj ?_
  refine kIf2 h (fun hb h => ?_) (fun hb h => ?_)
  refine wgo ?_
  repeat refine cj ?_
  refine kIf2 h (fun hb h => ?_) (fun hb h => ?_)
  refine wgo ?_
  repeat refine cj ?_
  refine kIf2 h (fun hb h => ?_) (fun hb h => ?_)
  refine wgo ?_
  repeat refine cj ?_
  refine kIf2 h (fun hb h => ?_) (fun hb h => ?_)
  refine wgo ?_
  repeat refine cj ?_
  refine kIf2 h (fun hb h => ?_) (fun hb h => ?_)
  refine wgo ?_
  repeat refine cj ?_
  refine kIf2 h (fun hb h => ?_) (fun hb h => ?_)
  refine wgo ?_
  repeat refine cj ?_
  refine kIf2 h (fun hb h => ?_) (fun hb h => ?_)
  refine wgo ?_
  repeat refine cj ?_
  refine kIf2 h (fun hb h => ?_) (fun hb h => ?_)
  refine wgo ?_
  repeat refine cj ?_
  refine kIf2 h (fun hb h => ?_) (fun hb h => ?_)
  refine wgo ?_
  repeat refine cj ?_
  obtain ⟨y1_48, hy1_48, h⟩ := bd h
  refine aCall_of (novationref15_price.spec hy1_48) ?_
  obtain rfl := Option.some.inj h
  exact fin
  obtain rfl := Option.some.inj h
  exact fin
  obtain rfl := Option.some.inj h
  exact fin
  obtain rfl := Option.some.inj h
  exact fin
  obtain rfl := Option.some.inj h
  exact fin
  obtain rfl := Option.some.inj h
  exact fin
  obtain rfl := Option.some.inj h
  exact fin
  obtain rfl := Option.some.inj h
  exact fin
  obtain rfl := Option.some.inj h
  exact fin
  obtain rfl := Option.some.inj h
  exact fin
end Go.Ax

/- The walk of novationref15_Row, printed by gen.py. -/
set_option linter.unusedSimpArgs false
set_option linter.unusedVariables false
namespace Go.Ax
open Go Go.Proofs
set_option maxRecDepth 100000
set_option maxHeartbeats 4000000
theorem novationref15_Row.spec {a0 : Int} {r : Int × Int} (h : novationref15_Row.f a0 = some r) : FSpec Try.prog 70 [(false, [.v (.int .i64 a0)])] [.one (.d (.v (.int .i64 r.1))), .one (.d (.v (.int .i64 r.2)))] := by
  unfold novationref15_Row.f at h
  refine fspec_data mixed Try.func70 rfl (by decide) [0, 2, 3] (rs := [.tmp 2, .tmp 3]) rfl (by decide) (n := 7) rfl (by simp) ?_
  refine wgo ?_
  repeat refine cj ?_
  refine kIf2 h (fun hb h => ?_) (fun hb h => ?_)
  obtain rfl := Option.some.inj h
  exact fin
  obtain rfl := Option.some.inj h
  exact fin
end Go.Ax

/- The walk of novationref15_TradeParts, printed by gen.py. -/
set_option linter.unusedSimpArgs false
set_option linter.unusedVariables false
namespace Go.Ax
open Go Go.Proofs
set_option maxRecDepth 100000
set_option maxHeartbeats 4000000
theorem novationref15_TradeParts.spec {a0 : api_Trade} {a1 : Int} {r : (List novationref10_Part) × Int} (h : novationref15_TradeParts.f a0 a1 = some r) : FSpec Try.prog 26 [(true, api_Trade.D a0), (false, [.v (.int .i64 a1)])] [.one (.own 4 (rowsD novationref10_Part.D r.1)), .one (.d (.v (.int .i64 r.2)))] := by
  unfold novationref15_TradeParts.f at h
  refine fspec_mix [true, false] mixed Try.func26 rfl (by decide) [0, 1, 2, 4, 5, 6, 7, 8, 9, 10] (rs := [.tmp 4, .tmp 5]) rfl (by decide) (n := 53) rfl (by simp) ?_
  refine wgo ?_
  repeat refine cj ?_
  obtain ⟨y1_1, hy1_1, h⟩ := bd h
  refine aCall_of (novationref15_RightTrade.spec hy1_1) ?_
  refine wgo ?_
  repeat refine cj ?_
  refine kIf3 h (fun hb h => ?_) (fun hb h => ?_)
  refine wgo ?_
  repeat refine cj ?_
  obtain ⟨y1_5, hy1_5, h⟩ := bd h
  refine aCall_of (novationref15_price.spec hy1_5) ?_
  refine wgo ?_
  repeat refine cj ?_
  refine kIf2 h (fun hb h => ?_) (fun hb h => ?_)
  obtain rfl := Option.some.inj h
  exact fin
  refine wgo ?_
  repeat refine cj ?_
  obtain ⟨y3_4, hy3_4, h⟩ := bd h
  refine aCall_of (novationref1_Whole.spec hy3_4) ?_
  refine wgo ?_
  repeat refine cj ?_
  obtain ⟨y3_7, hy3_7, h⟩ := bd h
  refine aCall_of (novationref1_Whole.spec hy3_7) ?_
  refine wgo ?_
  repeat refine cj ?_
  obtain ⟨y3_8, hy3_8, h⟩ := bd h
  refine aCall_of (novationref1_Times.spec hy3_8) ?_
  refine wgo ?_
  repeat refine cj ?_
  obtain ⟨y4_1, hy4_1, h⟩ := bd h
  refine aCall_of (novationref1_Sign.spec hy4_1) ?_
  refine wgo ?_
  repeat refine cj ?_
  refine kIf2 h (fun hb h => ?_) (fun hb h => ?_)
  obtain rfl := Option.some.inj h
  exact fin
  refine wgo ?_
  repeat refine cj ?_
  obtain ⟨y6_2, hy6_2, h⟩ := bd h
  refine aCall_of (novationref15_Row.spec hy6_2) ?_
  refine wgo ?_
  repeat refine cj ?_
  obtain ⟨y7_2, hy7_2, h⟩ := bd h
  refine aCall_of (novationref15_Row.spec hy7_2) ?_
  refine wgo ?_
  repeat refine cj ?_
  obtain ⟨y8_7, hy8_7, h⟩ := bd h
  refine aCall_of (novationref1_Turned.spec hy8_7) ?_
  obtain rfl := Option.some.inj h
  exact fin
  obtain rfl := Option.some.inj h
  exact fin
end Go.Ax

/- The walk of novationseat_Deck_Next, printed by gen.py. -/
set_option linter.unusedSimpArgs false
set_option linter.unusedVariables false
namespace Go.Ax
open Go Go.Proofs
set_option maxRecDepth 100000
set_option maxHeartbeats 4000000
theorem novationseat_Deck_Next.spec {a0 : novationseat_Deck} {r : Int × novationseat_Deck} (h : novationseat_Deck_Next.f a0 = some r) : XSpec Try.prog 81 [.box [.d (.l (rowsD u64D a0.L)), .d (.v (.int .i64 a0.f_i))]] [[.d (.l (rowsD u64D r.2.L)), .d (.v (.int .i64 r.2.f_i))]] [.one (.d (.v (.int .u64 r.1)))] := by
  unfold novationseat_Deck_Next.f at h
  refine xspec_mix [false] mixed Try.func81 rfl (by decide) [0, 2, 3] (rs := [.tmp 2]) rfl (by decide) (n := 32) rfl (by simp) (by kernel_rfl) (by kernel_rfl) (by kernel_rfl) ?_
  refine wgo ?_
  repeat refine cj ?_
  refine kIf2 h (fun hb h => ?_) (fun hb h => ?_)
  obtain ⟨⟨hg3_8_0, hg3_8_1⟩, h⟩ := gd h
  obtain rfl := Option.some.inj h
  exact fin
  obtain rfl := Option.some.inj h
  exact fin
end Go.Ax

/- The walk of novationseat_Deck_N, printed by gen.py. -/
set_option linter.unusedSimpArgs false
set_option linter.unusedVariables false
namespace Go.Ax
open Go Go.Proofs
set_option maxRecDepth 100000
set_option maxHeartbeats 4000000
theorem novationseat_Deck_N.spec {a0 : novationseat_Deck} {a1 : Int} {r : Int × novationseat_Deck} (h : novationseat_Deck_N.f a0 a1 = some r) : XSpec Try.prog 24 [.box [.d (.l (rowsD u64D a0.L)), .d (.v (.int .i64 a0.f_i))], .d (false, [.v (.int .i64 a1)])] [[.d (.l (rowsD u64D r.2.L)), .d (.v (.int .i64 r.2.f_i))], []] [.one (.d (.v (.int .i64 r.1)))] := by
  unfold novationseat_Deck_N.f at h
  refine xspec_mix [false] mixed Try.func24 rfl (by decide) [0, 1, 4] (rs := [.tmp 4]) rfl (by decide) (n := 11) rfl (by simp) (by kernel_rfl) (by kernel_rfl) (by kernel_rfl) ?_
  refine wgo ?_
  repeat refine cj ?_
  obtain ⟨y1_1, hy1_1, h⟩ := bd h
  have e := novationseat_Deck_Next.spec hy1_1
  try simp only [go_sem, List.map_set, rowsD_append, rowsD_cons, rowsD_nil, rowsD_set, rowsD_take, rowsD_drop, rowsD_replicate] at e
  refine xCall_of [] e ?_
  obtain ⟨hg1_4, h⟩ := gd h
  obtain rfl := Option.some.inj h
  exact fin
end Go.Ax
