/- The walk of mark_Price, printed by gen.py. -/
import Derived.Test.YtmpbhgofllbejaaGa
import Derived.Test.YtmpbhgofllbejaaGs
set_option linter.unusedVariables false
set_option linter.unusedSimpArgs false
set_option linter.unusedSimpArgs false
set_option linter.unusedVariables false
namespace Go.Ax
open Go Go.Proofs
set_option maxRecDepth 100000
set_option maxHeartbeats 4000000
theorem mark_Price.spec {a0 : Int} {r : Bool} (h : mark_Price.f a0 = some r) : FSpec Try.prog 63 [(false, [.v (.int .i64 a0)])] [.one (.d (.v (.bool r)))] := by
  unfold mark_Price.f at h
  refine fspec_data mixed Try.func63 rfl (by decide) [0, 2] (rs := [.tmp 2]) rfl (by decide) (n := 9) rfl (by simp) ?_
  try simp (maxSteps := 2000000) only [go_sem, ↓reduceIte, reduceCtorEq, Nat.reduceLT, Nat.reduceLeDiff, Nat.reduceEqDiff, Nat.reduceMul, Nat.reduceAdd, Nat.reduceSub, Int.reduceLE, Int.reduceLT]
  repeat refine And.intro (by first | assumption | (show chk _ _ _ = true; kernel_rfl) | omega | (simp; done)) ?_
  refine kIf_of (fun hb => ?_) (fun hb => ?_)
  · replace h := ifp h (by first | (simpa using hb) | (simp at hb ⊢; grind))
    obtain rfl := Option.some.inj h
    simp (maxSteps := 2000000) only [go_sem, ↓reduceIte, reduceCtorEq, Nat.reduceLT, Nat.reduceLeDiff, Nat.reduceEqDiff, Nat.reduceMul, Nat.reduceAdd, Nat.reduceSub, Int.reduceLE, Int.reduceLT] <;> first | rfl | ((repeat (first | refine And.intro (by first | assumption | (show chk _ _ _ = true; kernel_rfl) | omega | (simp; done)) ?_ | rfl | simp only [rowsD_append, rowsD_cons, rowsD_nil, rowsD_set, rowsD_take, rowsD_drop, rowsD_replicate])); done) | (simp only [rowsD_append, rowsD_cons, rowsD_nil, rowsD_set, rowsD_take, rowsD_drop, rowsD_replicate]; done) | (simp only [rowsD_append, rowsD_cons, rowsD_nil, rowsD_set, rowsD_take, rowsD_drop, rowsD_replicate]; rfl)
  · replace h := ifn h (by first | (simpa using hb) | (simp at hb ⊢; grind))
    obtain rfl := Option.some.inj h
    simp (maxSteps := 2000000) only [go_sem, ↓reduceIte, reduceCtorEq, Nat.reduceLT, Nat.reduceLeDiff, Nat.reduceEqDiff, Nat.reduceMul, Nat.reduceAdd, Nat.reduceSub, Int.reduceLE, Int.reduceLT] <;> first | rfl | ((repeat (first | refine And.intro (by first | assumption | (show chk _ _ _ = true; kernel_rfl) | omega | (simp; done)) ?_ | rfl | simp only [rowsD_append, rowsD_cons, rowsD_nil, rowsD_set, rowsD_take, rowsD_drop, rowsD_replicate])); done) | (simp only [rowsD_append, rowsD_cons, rowsD_nil, rowsD_set, rowsD_take, rowsD_drop, rowsD_replicate]; done) | (simp only [rowsD_append, rowsD_cons, rowsD_nil, rowsD_set, rowsD_take, rowsD_drop, rowsD_replicate]; rfl)
end Go.Ax

/- The walk of mark_entry, printed by gen.py. -/
set_option linter.unusedSimpArgs false
set_option linter.unusedVariables false
namespace Go.Ax
open Go Go.Proofs
set_option maxRecDepth 100000
set_option maxHeartbeats 4000000
theorem mark_entry.spec {a0 : Int} {a1 : Int} {r : api_Entry} (h : mark_entry.f a0 a1 = some r) : FSpec Try.prog 64 [(false, [.v (.int .i64 a0)]), (true, wD a1)] [.agg (api_Entry.D r)] := by
  unfold mark_entry.f at h
  refine fspec_data mixed Try.func64 rfl (by decide) [0, 1, 3, 4] (rs := [.cell 4 63]) rfl (by decide) (n := 12) rfl (by simp) ?_
  try simp (maxSteps := 2000000) only [go_sem, ↓reduceIte, reduceCtorEq, Nat.reduceLT, Nat.reduceLeDiff, Nat.reduceEqDiff, Nat.reduceMul, Nat.reduceAdd, Nat.reduceSub, Int.reduceLE, Int.reduceLT]
  repeat refine And.intro (by first | assumption | (show chk _ _ _ = true; kernel_rfl) | omega | (simp; done)) ?_
  refine kIf_of (fun hb => ?_) (fun hb => ?_)
  · replace h := ifp h (by first | (simpa using hb) | (simp at hb ⊢; grind))
    obtain rfl := Option.some.inj h
    simp (maxSteps := 2000000) only [go_sem, ↓reduceIte, reduceCtorEq, Nat.reduceLT, Nat.reduceLeDiff, Nat.reduceEqDiff, Nat.reduceMul, Nat.reduceAdd, Nat.reduceSub, Int.reduceLE, Int.reduceLT] <;> first | rfl | ((repeat (first | refine And.intro (by first | assumption | (show chk _ _ _ = true; kernel_rfl) | omega | (simp; done)) ?_ | rfl | simp only [rowsD_append, rowsD_cons, rowsD_nil, rowsD_set, rowsD_take, rowsD_drop, rowsD_replicate])); done) | (simp only [rowsD_append, rowsD_cons, rowsD_nil, rowsD_set, rowsD_take, rowsD_drop, rowsD_replicate]; done) | (simp only [rowsD_append, rowsD_cons, rowsD_nil, rowsD_set, rowsD_take, rowsD_drop, rowsD_replicate]; rfl)
  · replace h := ifn h (by first | (simpa using hb) | (simp at hb ⊢; grind))
    obtain rfl := Option.some.inj h
    simp (maxSteps := 2000000) only [go_sem, ↓reduceIte, reduceCtorEq, Nat.reduceLT, Nat.reduceLeDiff, Nat.reduceEqDiff, Nat.reduceMul, Nat.reduceAdd, Nat.reduceSub, Int.reduceLE, Int.reduceLT] <;> first | rfl | ((repeat (first | refine And.intro (by first | assumption | (show chk _ _ _ = true; kernel_rfl) | omega | (simp; done)) ?_ | rfl | simp only [rowsD_append, rowsD_cons, rowsD_nil, rowsD_set, rowsD_take, rowsD_drop, rowsD_replicate])); done) | (simp only [rowsD_append, rowsD_cons, rowsD_nil, rowsD_set, rowsD_take, rowsD_drop, rowsD_replicate]; done) | (simp only [rowsD_append, rowsD_cons, rowsD_nil, rowsD_set, rowsD_take, rowsD_drop, rowsD_replicate]; rfl)
end Go.Ax

/- The walk of stock_Quantity, printed by gen.py. -/
set_option linter.unusedSimpArgs false
set_option linter.unusedVariables false
namespace Go.Ax
open Go Go.Proofs
set_option maxRecDepth 100000
set_option maxHeartbeats 4000000
theorem stock_Quantity.spec {a0 : Int} {r : Bool} (h : stock_Quantity.f a0 = some r) : FSpec Try.prog 109 [(false, [.v (.int .i64 a0)])] [.one (.d (.v (.bool r)))] := by
  unfold stock_Quantity.f at h
  refine fspec_data mixed Try.func109 rfl (by decide) [0, 2] (rs := [.tmp 2]) rfl (by decide) (n := 5) rfl (by simp) ?_
  obtain rfl := Option.some.inj h
  simp (maxSteps := 2000000) only [go_sem, ↓reduceIte, reduceCtorEq, Nat.reduceLT, Nat.reduceLeDiff, Nat.reduceEqDiff, Nat.reduceMul, Nat.reduceAdd, Nat.reduceSub, Int.reduceLE, Int.reduceLT] <;> first | rfl | ((repeat (first | refine And.intro (by first | assumption | (show chk _ _ _ = true; kernel_rfl) | omega | (simp; done)) ?_ | rfl | simp only [rowsD_append, rowsD_cons, rowsD_nil, rowsD_set, rowsD_take, rowsD_drop, rowsD_replicate])); done) | (simp only [rowsD_append, rowsD_cons, rowsD_nil, rowsD_set, rowsD_take, rowsD_drop, rowsD_replicate]; done) | (simp only [rowsD_append, rowsD_cons, rowsD_nil, rowsD_set, rowsD_take, rowsD_drop, rowsD_replicate]; rfl)
end Go.Ax

/- The walk of stock_key, printed by gen.py. -/
set_option linter.unusedSimpArgs false
set_option linter.unusedVariables false
namespace Go.Ax
open Go Go.Proofs
set_option maxRecDepth 100000
set_option maxHeartbeats 4000000
theorem stock_key.spec {a0 : Int} {a1 : Int} {r : Bool} (h : stock_key.f a0 a1 = some r) : FSpec Try.prog 108 [(false, [.v (.int .i64 a0)]), (false, [.v (.int .i64 a1)])] [.one (.d (.v (.bool r)))] := by
  unfold stock_key.f at h
  refine fspec_data mixed Try.func108 rfl (by decide) [0, 1, 4] (rs := [.tmp 4]) rfl (by decide) (n := 19) rfl (by simp) ?_
  try simp (maxSteps := 2000000) only [go_sem, ↓reduceIte, reduceCtorEq, Nat.reduceLT, Nat.reduceLeDiff, Nat.reduceEqDiff, Nat.reduceMul, Nat.reduceAdd, Nat.reduceSub, Int.reduceLE, Int.reduceLT]
  repeat refine And.intro (by first | assumption | (show chk _ _ _ = true; kernel_rfl) | omega | (simp; done)) ?_
  refine kIf_of (fun hb => ?_) (fun hb => ?_)
  · replace h := ifp h (by first | (simpa using hb) | (simp at hb ⊢; grind))
    try simp (maxSteps := 2000000) only [go_sem, ↓reduceIte, reduceCtorEq, Nat.reduceLT, Nat.reduceLeDiff, Nat.reduceEqDiff, Nat.reduceMul, Nat.reduceAdd, Nat.reduceSub, Int.reduceLE, Int.reduceLT]
    repeat refine And.intro (by first | assumption | (show chk _ _ _ = true; kernel_rfl) | omega | (simp; done)) ?_
    refine kIf_of (fun hb => ?_) (fun hb => ?_)
    · replace h := ifp h (by first | (simpa using hb) | (simp at hb ⊢; grind))
      try simp (maxSteps := 2000000) only [go_sem, ↓reduceIte, reduceCtorEq, Nat.reduceLT, Nat.reduceLeDiff, Nat.reduceEqDiff, Nat.reduceMul, Nat.reduceAdd, Nat.reduceSub, Int.reduceLE, Int.reduceLT]
      repeat refine And.intro (by first | assumption | (show chk _ _ _ = true; kernel_rfl) | omega | (simp; done)) ?_
      refine kIf_of (fun hb => ?_) (fun hb => ?_)
      · replace h := ifp h (by first | (simpa using hb) | (simp at hb ⊢; grind))
        obtain rfl := Option.some.inj h
        simp (maxSteps := 2000000) only [go_sem, ↓reduceIte, reduceCtorEq, Nat.reduceLT, Nat.reduceLeDiff, Nat.reduceEqDiff, Nat.reduceMul, Nat.reduceAdd, Nat.reduceSub, Int.reduceLE, Int.reduceLT] <;> first | rfl | ((repeat (first | refine And.intro (by first | assumption | (show chk _ _ _ = true; kernel_rfl) | omega | (simp; done)) ?_ | rfl | simp only [rowsD_append, rowsD_cons, rowsD_nil, rowsD_set, rowsD_take, rowsD_drop, rowsD_replicate])); done) | (simp only [rowsD_append, rowsD_cons, rowsD_nil, rowsD_set, rowsD_take, rowsD_drop, rowsD_replicate]; done) | (simp only [rowsD_append, rowsD_cons, rowsD_nil, rowsD_set, rowsD_take, rowsD_drop, rowsD_replicate]; rfl)
      · replace h := ifn h (by first | (simpa using hb) | (simp at hb ⊢; grind))
        obtain rfl := Option.some.inj h
        simp (maxSteps := 2000000) only [go_sem, ↓reduceIte, reduceCtorEq, Nat.reduceLT, Nat.reduceLeDiff, Nat.reduceEqDiff, Nat.reduceMul, Nat.reduceAdd, Nat.reduceSub, Int.reduceLE, Int.reduceLT] <;> first | rfl | ((repeat (first | refine And.intro (by first | assumption | (show chk _ _ _ = true; kernel_rfl) | omega | (simp; done)) ?_ | rfl | simp only [rowsD_append, rowsD_cons, rowsD_nil, rowsD_set, rowsD_take, rowsD_drop, rowsD_replicate])); done) | (simp only [rowsD_append, rowsD_cons, rowsD_nil, rowsD_set, rowsD_take, rowsD_drop, rowsD_replicate]; done) | (simp only [rowsD_append, rowsD_cons, rowsD_nil, rowsD_set, rowsD_take, rowsD_drop, rowsD_replicate]; rfl)
    · replace h := ifn h (by first | (simpa using hb) | (simp at hb ⊢; grind))
      obtain rfl := Option.some.inj h
      simp (maxSteps := 2000000) only [go_sem, ↓reduceIte, reduceCtorEq, Nat.reduceLT, Nat.reduceLeDiff, Nat.reduceEqDiff, Nat.reduceMul, Nat.reduceAdd, Nat.reduceSub, Int.reduceLE, Int.reduceLT] <;> first | rfl | ((repeat (first | refine And.intro (by first | assumption | (show chk _ _ _ = true; kernel_rfl) | omega | (simp; done)) ?_ | rfl | simp only [rowsD_append, rowsD_cons, rowsD_nil, rowsD_set, rowsD_take, rowsD_drop, rowsD_replicate])); done) | (simp only [rowsD_append, rowsD_cons, rowsD_nil, rowsD_set, rowsD_take, rowsD_drop, rowsD_replicate]; done) | (simp only [rowsD_append, rowsD_cons, rowsD_nil, rowsD_set, rowsD_take, rowsD_drop, rowsD_replicate]; rfl)
  · replace h := ifn h (by first | (simpa using hb) | (simp at hb ⊢; grind))
    obtain rfl := Option.some.inj h
    simp (maxSteps := 2000000) only [go_sem, ↓reduceIte, reduceCtorEq, Nat.reduceLT, Nat.reduceLeDiff, Nat.reduceEqDiff, Nat.reduceMul, Nat.reduceAdd, Nat.reduceSub, Int.reduceLE, Int.reduceLT] <;> first | rfl | ((repeat (first | refine And.intro (by first | assumption | (show chk _ _ _ = true; kernel_rfl) | omega | (simp; done)) ?_ | rfl | simp only [rowsD_append, rowsD_cons, rowsD_nil, rowsD_set, rowsD_take, rowsD_drop, rowsD_replicate])); done) | (simp only [rowsD_append, rowsD_cons, rowsD_nil, rowsD_set, rowsD_take, rowsD_drop, rowsD_replicate]; done) | (simp only [rowsD_append, rowsD_cons, rowsD_nil, rowsD_set, rowsD_take, rowsD_drop, rowsD_replicate]; rfl)
end Go.Ax

/- The walk of stock_order, printed by gen.py. -/
set_option linter.unusedSimpArgs false
set_option linter.unusedVariables false
namespace Go.Ax
open Go Go.Proofs
set_option maxRecDepth 100000
set_option maxHeartbeats 4000000
theorem stock_order.spec {a0 : Int} {a1 : Int} {a2 : api_Pos} {r : Int} (h : stock_order.f a0 a1 a2 = some r) : FSpec Try.prog 110 [(false, [.v (.int .i64 a0)]), (false, [.v (.int .i64 a1)]), (true, api_Pos.D a2)] [.one (.d (.v (.int .i64 r)))] := by
  unfold stock_order.f at h
  refine fspec_data mixed Try.func110 rfl (by decide) [0, 1, 2, 5, 6] (rs := [.tmp 6]) rfl (by decide) (n := 19) rfl (by simp) ?_
  try simp (maxSteps := 2000000) only [go_sem, ↓reduceIte, reduceCtorEq, Nat.reduceLT, Nat.reduceLeDiff, Nat.reduceEqDiff, Nat.reduceMul, Nat.reduceAdd, Nat.reduceSub, Int.reduceLE, Int.reduceLT]
  repeat refine And.intro (by first | assumption | (show chk _ _ _ = true; kernel_rfl) | omega | (simp; done)) ?_
  refine kIf_of (fun hb => ?_) (fun hb => ?_)
  · replace h := ifp h (by first | (simpa using hb) | (simp at hb ⊢; grind))
    obtain rfl := Option.some.inj h
    simp (maxSteps := 2000000) only [go_sem, ↓reduceIte, reduceCtorEq, Nat.reduceLT, Nat.reduceLeDiff, Nat.reduceEqDiff, Nat.reduceMul, Nat.reduceAdd, Nat.reduceSub, Int.reduceLE, Int.reduceLT] <;> first | rfl | ((repeat (first | refine And.intro (by first | assumption | (show chk _ _ _ = true; kernel_rfl) | omega | (simp; done)) ?_ | rfl | simp only [rowsD_append, rowsD_cons, rowsD_nil, rowsD_set, rowsD_take, rowsD_drop, rowsD_replicate])); done) | (simp only [rowsD_append, rowsD_cons, rowsD_nil, rowsD_set, rowsD_take, rowsD_drop, rowsD_replicate]; done) | (simp only [rowsD_append, rowsD_cons, rowsD_nil, rowsD_set, rowsD_take, rowsD_drop, rowsD_replicate]; rfl)
  · replace h := ifn h (by first | (simpa using hb) | (simp at hb ⊢; grind))
    obtain rfl := Option.some.inj h
    simp (maxSteps := 2000000) only [go_sem, ↓reduceIte, reduceCtorEq, Nat.reduceLT, Nat.reduceLeDiff, Nat.reduceEqDiff, Nat.reduceMul, Nat.reduceAdd, Nat.reduceSub, Int.reduceLE, Int.reduceLT] <;> first | rfl | ((repeat (first | refine And.intro (by first | assumption | (show chk _ _ _ = true; kernel_rfl) | omega | (simp; done)) ?_ | rfl | simp only [rowsD_append, rowsD_cons, rowsD_nil, rowsD_set, rowsD_take, rowsD_drop, rowsD_replicate])); done) | (simp only [rowsD_append, rowsD_cons, rowsD_nil, rowsD_set, rowsD_take, rowsD_drop, rowsD_replicate]; done) | (simp only [rowsD_append, rowsD_cons, rowsD_nil, rowsD_set, rowsD_take, rowsD_drop, rowsD_replicate]; rfl)
end Go.Ax

/- The walk of stock_Right, printed by gen.py. -/
set_option linter.unusedSimpArgs false
set_option linter.unusedVariables false
namespace Go.Ax
open Go Go.Proofs
set_option maxRecDepth 100000
set_option maxHeartbeats 4000000
theorem stock_Right.spec {a0 : List api_Pos} {r : Bool} (h : stock_Right.f a0 = some r) : FSpec Try.prog 47 [(false, [.l (rowsD api_Pos.D a0)])] [.one (.d (.v (.bool r)))] := by
  unfold stock_Right.f at h
  refine fspec_data mixed Try.func47 rfl (by decide) [0, 2, 3, 4, 5, 6, 7] (rs := [.tmp 2]) rfl (by decide) (n := 47) rfl (by simp) ?_
  try simp (maxSteps := 2000000) only [go_sem, ↓reduceIte, reduceCtorEq, Nat.reduceLT, Nat.reduceLeDiff, Nat.reduceEqDiff, Nat.reduceMul, Nat.reduceAdd, Nat.reduceSub, Int.reduceLE, Int.reduceLT]
  repeat refine And.intro (by first | assumption | (show chk _ _ _ = true; kernel_rfl) | omega | (simp; done)) ?_
  obtain ⟨f0, h0, q0⟩ := bd h
  rw [aCode_loop]
  refine aLoop_fx (α := Nat × Int) (fun p => (⟨47, [], [(0, .one (.l (rowsD api_Pos.D a0))), (2, .one (.v (.bool false))), (3, .none), (4, .none), (5, .one (.l (rowsD api_Pos.D a0))), (6, .one (.v (.int .i64 (a0.length : Int)))), (7, .one (.v (.int .i64 p.2)))]⟩ : S)) (fun p => stock_Right.l0 a0 p.1 p.2 = some f0) (fun p => p.1) (FUEL, 0) h0 ?_ ?_
  · (try simp only [go_sem, List.map_set, rowsD_append, rowsD_cons, rowsD_nil, rowsD_set, rowsD_take, rowsD_drop, rowsD_replicate]) <;> (repeat' first | exact FlexV.nil | exact FlexT.refl _ | exact FlexT.none _ | exact FlexT.frz _ _ | exact FlexT.nil _ | exact FlexB.nil | exact FlexL.refl _ | exact FlexL.nil _ | exact FlexL.frz _ _ | refine FlexV.cons ?_ ?_ | refine FlexT.box ?_ | refine FlexB.cons ?_ ?_ | refine Flex.mk ?_)
  rintro ⟨k0, x7_0⟩ h
  simp only at h
  obtain _ | k0 := k0
  · exact absurd h (by simp [stock_Right.l0])
  rw [stock_Right.l0] at h
  try simp (maxSteps := 2000000) only [go_sem, ↓reduceIte, reduceCtorEq, Nat.reduceLT, Nat.reduceLeDiff, Nat.reduceEqDiff, Nat.reduceMul, Nat.reduceAdd, Nat.reduceSub, Int.reduceLE, Int.reduceLT]
  repeat refine And.intro (by first | assumption | (show chk _ _ _ = true; kernel_rfl) | omega | (simp; done)) ?_
  refine kIf_of (fun hb => ?_) (fun hb => ?_)
  · replace h := ifp h (by first | (simpa using hb) | (simp at hb ⊢; grind))
    obtain ⟨⟨hg3_1_0, hg3_1_1⟩, h⟩ := gd h
    try simp (maxSteps := 2000000) only [go_sem, ↓reduceIte, reduceCtorEq, Nat.reduceLT, Nat.reduceLeDiff, Nat.reduceEqDiff, Nat.reduceMul, Nat.reduceAdd, Nat.reduceSub, Int.reduceLE, Int.reduceLT]
    repeat refine And.intro (by first | assumption | (show chk _ _ _ = true; kernel_rfl) | omega | (simp; done)) ?_
    obtain ⟨y4_4, hy4_4, h⟩ := bd h
    refine aCall_of (stock_key.spec hy4_4) ?_
    try simp (maxSteps := 2000000) only [go_sem, ↓reduceIte, reduceCtorEq, Nat.reduceLT, Nat.reduceLeDiff, Nat.reduceEqDiff, Nat.reduceMul, Nat.reduceAdd, Nat.reduceSub, Int.reduceLE, Int.reduceLT]
    repeat refine And.intro (by first | assumption | (show chk _ _ _ = true; kernel_rfl) | omega | (simp; done)) ?_
    refine kIf_of (fun hb => ?_) (fun hb => ?_)
    · replace h := ifn h (by first | (simpa using hb) | (simp at hb ⊢; grind))
      try simp (maxSteps := 2000000) only [go_sem, ↓reduceIte, reduceCtorEq, Nat.reduceLT, Nat.reduceLeDiff, Nat.reduceEqDiff, Nat.reduceMul, Nat.reduceAdd, Nat.reduceSub, Int.reduceLE, Int.reduceLT]
      repeat refine And.intro (by first | assumption | (show chk _ _ _ = true; kernel_rfl) | omega | (simp; done)) ?_
      refine kIf_of (fun hb => ?_) (fun hb => ?_)
      · replace h := ifn h (by first | (simpa using hb) | (simp at hb ⊢; grind))
        try simp (maxSteps := 2000000) only [go_sem, ↓reduceIte, reduceCtorEq, Nat.reduceLT, Nat.reduceLeDiff, Nat.reduceEqDiff, Nat.reduceMul, Nat.reduceAdd, Nat.reduceSub, Int.reduceLE, Int.reduceLT]
        repeat refine And.intro (by first | assumption | (show chk _ _ _ = true; kernel_rfl) | omega | (simp; done)) ?_
        obtain ⟨y4_14, hy4_14, h⟩ := bd h
        refine aCall_of (stock_Quantity.spec hy4_14) ?_
        try simp (maxSteps := 2000000) only [go_sem, ↓reduceIte, reduceCtorEq, Nat.reduceLT, Nat.reduceLeDiff, Nat.reduceEqDiff, Nat.reduceMul, Nat.reduceAdd, Nat.reduceSub, Int.reduceLE, Int.reduceLT]
        repeat refine And.intro (by first | assumption | (show chk _ _ _ = true; kernel_rfl) | omega | (simp; done)) ?_
        refine kIf_of (fun hb => ?_) (fun hb => ?_)
        · replace h := ifn h (by first | (simpa using hb) | (simp at hb ⊢; grind))
          try simp (maxSteps := 2000000) only [go_sem, ↓reduceIte, reduceCtorEq, Nat.reduceLT, Nat.reduceLeDiff, Nat.reduceEqDiff, Nat.reduceMul, Nat.reduceAdd, Nat.reduceSub, Int.reduceLE, Int.reduceLT]
          repeat refine And.intro (by first | assumption | (show chk _ _ _ = true; kernel_rfl) | omega | (simp; done)) ?_
          refine kIf_of (fun hb => ?_) (fun hb => ?_)
          · replace h := ifp h (by first | (simpa using hb) | (simp at hb ⊢; grind))
            obtain ⟨⟨hg4_28_0, hg4_28_1⟩, h⟩ := gd h
            try simp (maxSteps := 2000000) only [go_sem, ↓reduceIte, reduceCtorEq, Nat.reduceLT, Nat.reduceLeDiff, Nat.reduceEqDiff, Nat.reduceMul, Nat.reduceAdd, Nat.reduceSub, Int.reduceLE, Int.reduceLT]
            repeat refine And.intro (by first | assumption | (show chk _ _ _ = true; kernel_rfl) | omega | (simp; done)) ?_
            obtain ⟨y4_30, hy4_30, h⟩ := bd h
            have e := stock_order.spec hy4_30
            simp only [go_sem, rowsD_append, rowsD_cons, rowsD_nil, rowsD_set, rowsD_take, rowsD_drop, rowsD_replicate] at e
            refine aCall_of e ?_
            try simp (maxSteps := 2000000) only [go_sem, ↓reduceIte, reduceCtorEq, Nat.reduceLT, Nat.reduceLeDiff, Nat.reduceEqDiff, Nat.reduceMul, Nat.reduceAdd, Nat.reduceSub, Int.reduceLE, Int.reduceLT]
            repeat refine And.intro (by first | assumption | (show chk _ _ _ = true; kernel_rfl) | omega | (simp; done)) ?_
            refine kIf_of (fun hb => ?_) (fun hb => ?_)
            · replace h := ifp h (by first | (simpa using hb) | (simp at hb ⊢; grind))
              obtain rfl := Option.some.inj h
              have h := q0
              simp only [Flow.go_ret, Flow.goL_ret] at h
              obtain rfl := Option.some.inj h
              simp (maxSteps := 2000000) only [go_sem, ↓reduceIte, reduceCtorEq, Nat.reduceLT, Nat.reduceLeDiff, Nat.reduceEqDiff, Nat.reduceMul, Nat.reduceAdd, Nat.reduceSub, Int.reduceLE, Int.reduceLT] <;> first | rfl | ((repeat (first | refine And.intro (by first | assumption | (show chk _ _ _ = true; kernel_rfl) | omega | (simp; done)) ?_ | rfl | simp only [rowsD_append, rowsD_cons, rowsD_nil, rowsD_set, rowsD_take, rowsD_drop, rowsD_replicate])); done) | (simp only [rowsD_append, rowsD_cons, rowsD_nil, rowsD_set, rowsD_take, rowsD_drop, rowsD_replicate]; done) | (simp only [rowsD_append, rowsD_cons, rowsD_nil, rowsD_set, rowsD_take, rowsD_drop, rowsD_replicate]; rfl)
            · replace h := ifn h (by first | (simpa using hb) | (simp at hb ⊢; grind))
              try simp (maxSteps := 2000000) only [go_sem, ↓reduceIte, reduceCtorEq, Nat.reduceLT, Nat.reduceLeDiff, Nat.reduceEqDiff, Nat.reduceMul, Nat.reduceAdd, Nat.reduceSub, Int.reduceLE, Int.reduceLT]
              repeat refine And.intro (by first | assumption | (show chk _ _ _ = true; kernel_rfl) | omega | (simp; done)) ?_
              refine Round.fx (k0, IntKind.i64.wrap (x7_0 + 1)) h (Nat.lt_succ_self k0) ?_
              (try simp only [go_sem, List.map_set, rowsD_append, rowsD_cons, rowsD_nil, rowsD_set, rowsD_take, rowsD_drop, rowsD_replicate]) <;> (repeat' first | exact FlexV.nil | exact FlexT.refl _ | exact FlexT.none _ | exact FlexT.frz _ _ | exact FlexT.nil _ | exact FlexB.nil | exact FlexL.refl _ | exact FlexL.nil _ | exact FlexL.frz _ _ | refine FlexV.cons ?_ ?_ | refine FlexT.box ?_ | refine FlexB.cons ?_ ?_ | refine Flex.mk ?_)
          · replace h := ifn h (by first | (simpa using hb) | (simp at hb ⊢; grind))
            try simp (maxSteps := 2000000) only [go_sem, ↓reduceIte, reduceCtorEq, Nat.reduceLT, Nat.reduceLeDiff, Nat.reduceEqDiff, Nat.reduceMul, Nat.reduceAdd, Nat.reduceSub, Int.reduceLE, Int.reduceLT]
            repeat refine And.intro (by first | assumption | (show chk _ _ _ = true; kernel_rfl) | omega | (simp; done)) ?_
            refine Round.fx (k0, IntKind.i64.wrap (x7_0 + 1)) h (Nat.lt_succ_self k0) ?_
            (try simp only [go_sem, List.map_set, rowsD_append, rowsD_cons, rowsD_nil, rowsD_set, rowsD_take, rowsD_drop, rowsD_replicate]) <;> (repeat' first | exact FlexV.nil | exact FlexT.refl _ | exact FlexT.none _ | exact FlexT.frz _ _ | exact FlexT.nil _ | exact FlexB.nil | exact FlexL.refl _ | exact FlexL.nil _ | exact FlexL.frz _ _ | refine FlexV.cons ?_ ?_ | refine FlexT.box ?_ | refine FlexB.cons ?_ ?_ | refine Flex.mk ?_)
        · replace h := ifp h (by first | (simpa using hb) | (simp at hb ⊢; grind))
          obtain rfl := Option.some.inj h
          have h := q0
          simp only [Flow.go_ret, Flow.goL_ret] at h
          obtain rfl := Option.some.inj h
          simp (maxSteps := 2000000) only [go_sem, ↓reduceIte, reduceCtorEq, Nat.reduceLT, Nat.reduceLeDiff, Nat.reduceEqDiff, Nat.reduceMul, Nat.reduceAdd, Nat.reduceSub, Int.reduceLE, Int.reduceLT] <;> first | rfl | ((repeat (first | refine And.intro (by first | assumption | (show chk _ _ _ = true; kernel_rfl) | omega | (simp; done)) ?_ | rfl | simp only [rowsD_append, rowsD_cons, rowsD_nil, rowsD_set, rowsD_take, rowsD_drop, rowsD_replicate])); done) | (simp only [rowsD_append, rowsD_cons, rowsD_nil, rowsD_set, rowsD_take, rowsD_drop, rowsD_replicate]; done) | (simp only [rowsD_append, rowsD_cons, rowsD_nil, rowsD_set, rowsD_take, rowsD_drop, rowsD_replicate]; rfl)
      · replace h := ifp h (by first | (simpa using hb) | (simp at hb ⊢; grind))
        obtain rfl := Option.some.inj h
        have h := q0
        simp only [Flow.go_ret, Flow.goL_ret] at h
        obtain rfl := Option.some.inj h
        simp (maxSteps := 2000000) only [go_sem, ↓reduceIte, reduceCtorEq, Nat.reduceLT, Nat.reduceLeDiff, Nat.reduceEqDiff, Nat.reduceMul, Nat.reduceAdd, Nat.reduceSub, Int.reduceLE, Int.reduceLT] <;> first | rfl | ((repeat (first | refine And.intro (by first | assumption | (show chk _ _ _ = true; kernel_rfl) | omega | (simp; done)) ?_ | rfl | simp only [rowsD_append, rowsD_cons, rowsD_nil, rowsD_set, rowsD_take, rowsD_drop, rowsD_replicate])); done) | (simp only [rowsD_append, rowsD_cons, rowsD_nil, rowsD_set, rowsD_take, rowsD_drop, rowsD_replicate]; done) | (simp only [rowsD_append, rowsD_cons, rowsD_nil, rowsD_set, rowsD_take, rowsD_drop, rowsD_replicate]; rfl)
    · replace h := ifp h (by first | (simpa using hb) | (simp at hb ⊢; grind))
      obtain rfl := Option.some.inj h
      have h := q0
      simp only [Flow.go_ret, Flow.goL_ret] at h
      obtain rfl := Option.some.inj h
      simp (maxSteps := 2000000) only [go_sem, ↓reduceIte, reduceCtorEq, Nat.reduceLT, Nat.reduceLeDiff, Nat.reduceEqDiff, Nat.reduceMul, Nat.reduceAdd, Nat.reduceSub, Int.reduceLE, Int.reduceLT] <;> first | rfl | ((repeat (first | refine And.intro (by first | assumption | (show chk _ _ _ = true; kernel_rfl) | omega | (simp; done)) ?_ | rfl | simp only [rowsD_append, rowsD_cons, rowsD_nil, rowsD_set, rowsD_take, rowsD_drop, rowsD_replicate])); done) | (simp only [rowsD_append, rowsD_cons, rowsD_nil, rowsD_set, rowsD_take, rowsD_drop, rowsD_replicate]; done) | (simp only [rowsD_append, rowsD_cons, rowsD_nil, rowsD_set, rowsD_take, rowsD_drop, rowsD_replicate]; rfl)
  · replace h := ifn h (by first | (simpa using hb) | (simp at hb ⊢; grind))
    obtain rfl := Option.some.inj h
    have h := q0
    simp only [Flow.go_out, Flow.goL_out] at h
    try dsimp only at h
    obtain rfl := Option.some.inj h
    simp (maxSteps := 2000000) only [go_sem, ↓reduceIte, reduceCtorEq, Nat.reduceLT, Nat.reduceLeDiff, Nat.reduceEqDiff, Nat.reduceMul, Nat.reduceAdd, Nat.reduceSub, Int.reduceLE, Int.reduceLT] <;> first | rfl | ((repeat (first | refine And.intro (by first | assumption | (show chk _ _ _ = true; kernel_rfl) | omega | (simp; done)) ?_ | rfl | simp only [rowsD_append, rowsD_cons, rowsD_nil, rowsD_set, rowsD_take, rowsD_drop, rowsD_replicate])); done) | (simp only [rowsD_append, rowsD_cons, rowsD_nil, rowsD_set, rowsD_take, rowsD_drop, rowsD_replicate]; done) | (simp only [rowsD_append, rowsD_cons, rowsD_nil, rowsD_set, rowsD_take, rowsD_drop, rowsD_replicate]; rfl)
end Go.Ax

/- The walk of mark_Flows, printed by gen.py. -/
set_option linter.unusedSimpArgs false
set_option linter.unusedVariables false
namespace Go.Ax
open Go Go.Proofs
set_option maxRecDepth 100000
set_option maxHeartbeats 4000000
theorem mark_Flows.spec {a0 : List api_Pos} {a1 : Int} {a2 : Int} {a3 : Int} {r : (List api_Entry) × Int} (h : mark_Flows.f a0 a1 a2 a3 = some r) : FSpec Try.prog 12 [(false, [.l (rowsD api_Pos.D a0)]), (false, [.v (.int .i64 a1)]), (false, [.v (.int .i64 a2)]), (false, [.v (.int .i64 a3)])] [.one (.d (.l (rowsD api_Entry.D r.1))), .one (.d (.v (.int .i64 r.2)))] := by
  unfold mark_Flows.f at h
  refine fspec_data mixed Try.func12 rfl (by decide) [0, 1, 2, 3, 8, 9, 10, 12, 26, 27, 28] (rs := [.tmp 8, .tmp 9]) rfl (by decide) (n := 55) rfl (by simp) ?_
  try simp (maxSteps := 2000000) only [go_sem, ↓reduceIte, reduceCtorEq, Nat.reduceLT, Nat.reduceLeDiff, Nat.reduceEqDiff, Nat.reduceMul, Nat.reduceAdd, Nat.reduceSub, Int.reduceLE, Int.reduceLT]
  repeat refine And.intro (by first | assumption | (show chk _ _ _ = true; kernel_rfl) | omega | (simp; done)) ?_
  obtain ⟨y1_1, hy1_1, h⟩ := bd h
  refine aCall_of (stock_Right.spec hy1_1) ?_
  try simp (maxSteps := 2000000) only [go_sem, ↓reduceIte, reduceCtorEq, Nat.reduceLT, Nat.reduceLeDiff, Nat.reduceEqDiff, Nat.reduceMul, Nat.reduceAdd, Nat.reduceSub, Int.reduceLE, Int.reduceLT]
  repeat refine And.intro (by first | assumption | (show chk _ _ _ = true; kernel_rfl) | omega | (simp; done)) ?_
  refine kIf_of (fun hb => ?_) (fun hb => ?_)
  · replace h := ifn h (by first | (simpa using hb) | (simp at hb ⊢; grind))
    try simp (maxSteps := 2000000) only [go_sem, ↓reduceIte, reduceCtorEq, Nat.reduceLT, Nat.reduceLeDiff, Nat.reduceEqDiff, Nat.reduceMul, Nat.reduceAdd, Nat.reduceSub, Int.reduceLE, Int.reduceLT]
    repeat refine And.intro (by first | assumption | (show chk _ _ _ = true; kernel_rfl) | omega | (simp; done)) ?_
    obtain ⟨y1_5, hy1_5, h⟩ := bd h
    refine aCall_of (mark_Price.spec hy1_5) ?_
    try simp (maxSteps := 2000000) only [go_sem, ↓reduceIte, reduceCtorEq, Nat.reduceLT, Nat.reduceLeDiff, Nat.reduceEqDiff, Nat.reduceMul, Nat.reduceAdd, Nat.reduceSub, Int.reduceLE, Int.reduceLT]
    repeat refine And.intro (by first | assumption | (show chk _ _ _ = true; kernel_rfl) | omega | (simp; done)) ?_
    refine kIf_of (fun hb => ?_) (fun hb => ?_)
    · replace h := ifn h (by first | (simpa using hb) | (simp at hb ⊢; grind))
      try simp (maxSteps := 2000000) only [go_sem, ↓reduceIte, reduceCtorEq, Nat.reduceLT, Nat.reduceLeDiff, Nat.reduceEqDiff, Nat.reduceMul, Nat.reduceAdd, Nat.reduceSub, Int.reduceLE, Int.reduceLT]
      repeat refine And.intro (by first | assumption | (show chk _ _ _ = true; kernel_rfl) | omega | (simp; done)) ?_
      obtain ⟨y1_10, hy1_10, h⟩ := bd h
      refine aCall_of (mark_Price.spec hy1_10) ?_
      try simp (maxSteps := 2000000) only [go_sem, ↓reduceIte, reduceCtorEq, Nat.reduceLT, Nat.reduceLeDiff, Nat.reduceEqDiff, Nat.reduceMul, Nat.reduceAdd, Nat.reduceSub, Int.reduceLE, Int.reduceLT]
      repeat refine And.intro (by first | assumption | (show chk _ _ _ = true; kernel_rfl) | omega | (simp; done)) ?_
      refine kIf_of (fun hb => ?_) (fun hb => ?_)
      · replace h := ifp h (by first | (simpa using hb) | (simp at hb ⊢; grind))
        obtain rfl := Option.some.inj h
        simp (maxSteps := 2000000) only [go_sem, ↓reduceIte, reduceCtorEq, Nat.reduceLT, Nat.reduceLeDiff, Nat.reduceEqDiff, Nat.reduceMul, Nat.reduceAdd, Nat.reduceSub, Int.reduceLE, Int.reduceLT] <;> first | rfl | ((repeat (first | refine And.intro (by first | assumption | (show chk _ _ _ = true; kernel_rfl) | omega | (simp; done)) ?_ | rfl | simp only [rowsD_append, rowsD_cons, rowsD_nil, rowsD_set, rowsD_take, rowsD_drop, rowsD_replicate])); done) | (simp only [rowsD_append, rowsD_cons, rowsD_nil, rowsD_set, rowsD_take, rowsD_drop, rowsD_replicate]; done) | (simp only [rowsD_append, rowsD_cons, rowsD_nil, rowsD_set, rowsD_take, rowsD_drop, rowsD_replicate]; rfl)
      · replace h := ifn h (by first | (simpa using hb) | (simp at hb ⊢; grind))
        try simp (maxSteps := 2000000) only [go_sem, ↓reduceIte, reduceCtorEq, Nat.reduceLT, Nat.reduceLeDiff, Nat.reduceEqDiff, Nat.reduceMul, Nat.reduceAdd, Nat.reduceSub, Int.reduceLE, Int.reduceLT]
        repeat refine And.intro (by first | assumption | (show chk _ _ _ = true; kernel_rfl) | omega | (simp; done)) ?_
        obtain ⟨s1, h1, q1⟩ := bd h
        rw [aCode_loop]
        refine aLoop_fx (α := Nat × (List api_Entry) × Int) (fun p => (⟨55, [], [(0, .one (.l (rowsD api_Pos.D a0))), (1, .one (.v (.int .i64 a1))), (2, .one (.v (.int .i64 a2))), (3, .one (.v (.int .i64 a3))), (8, .own 4 (rowsD api_Entry.D ([] : List api_Entry))), (9, .one (.v (.int .i64 0))), (10, .own 4 (rowsD api_Entry.D p.2.1)), (12, .none), (26, .one (.l (rowsD api_Pos.D a0))), (27, .one (.v (.int .i64 (a0.length : Int)))), (28, .one (.v (.int .i64 p.2.2)))]⟩ : S)) (fun p => mark_Flows.l0 a0 a1 a2 a3 p.1 p.2.1 p.2.2 = some s1) (fun p => p.1) (FUEL, ([] : List api_Entry), 0) h1 ?_ ?_
        · (try simp only [go_sem, List.map_set, rowsD_append, rowsD_cons, rowsD_nil, rowsD_set, rowsD_take, rowsD_drop, rowsD_replicate]) <;> (repeat' first | exact FlexV.nil | exact FlexT.refl _ | exact FlexT.none _ | exact FlexT.frz _ _ | exact FlexT.nil _ | exact FlexB.nil | exact FlexL.refl _ | exact FlexL.nil _ | exact FlexL.frz _ _ | refine FlexV.cons ?_ ?_ | refine FlexT.box ?_ | refine FlexB.cons ?_ ?_ | refine Flex.mk ?_)
        rintro ⟨k1, x10_1, x28_1⟩ h
        simp only at h
        obtain _ | k1 := k1
        · exact absurd h (by simp [mark_Flows.l0])
        rw [mark_Flows.l0] at h
        try simp (maxSteps := 2000000) only [go_sem, ↓reduceIte, reduceCtorEq, Nat.reduceLT, Nat.reduceLeDiff, Nat.reduceEqDiff, Nat.reduceMul, Nat.reduceAdd, Nat.reduceSub, Int.reduceLE, Int.reduceLT]
        repeat refine And.intro (by first | assumption | (show chk _ _ _ = true; kernel_rfl) | omega | (simp; done)) ?_
        refine kIf_of (fun hb => ?_) (fun hb => ?_)
        · replace h := ifp h (by first | (simpa using hb) | (simp at hb ⊢; grind))
          obtain ⟨⟨hg6_0_0, hg6_0_1⟩, h⟩ := gd h
          try simp (maxSteps := 2000000) only [go_sem, ↓reduceIte, reduceCtorEq, Nat.reduceLT, Nat.reduceLeDiff, Nat.reduceEqDiff, Nat.reduceMul, Nat.reduceAdd, Nat.reduceSub, Int.reduceLE, Int.reduceLT]
          repeat refine And.intro (by first | assumption | (show chk _ _ _ = true; kernel_rfl) | omega | (simp; done)) ?_
          refine kIf_of (fun hb => ?_) (fun hb => ?_)
          · replace h := ifp h (by first | (simpa using hb) | (simp at hb ⊢; grind))
            try simp (maxSteps := 2000000) only [go_sem, ↓reduceIte, reduceCtorEq, Nat.reduceLT, Nat.reduceLeDiff, Nat.reduceEqDiff, Nat.reduceMul, Nat.reduceAdd, Nat.reduceSub, Int.reduceLE, Int.reduceLT]
            repeat refine And.intro (by first | assumption | (show chk _ _ _ = true; kernel_rfl) | omega | (simp; done)) ?_
            refine kIf_of (fun hb => ?_) (fun hb => ?_)
            · replace h := ifp h (by first | (simpa using hb) | (simp at hb ⊢; grind))
              try simp (maxSteps := 2000000) only [go_sem, ↓reduceIte, reduceCtorEq, Nat.reduceLT, Nat.reduceLeDiff, Nat.reduceEqDiff, Nat.reduceMul, Nat.reduceAdd, Nat.reduceSub, Int.reduceLE, Int.reduceLT]
              repeat refine And.intro (by first | assumption | (show chk _ _ _ = true; kernel_rfl) | omega | (simp; done)) ?_
              obtain ⟨y8_8, hy8_8, h⟩ := bd h
              refine aCall_of (wide_Mul.spec hy8_8) ?_
              try simp (maxSteps := 2000000) only [go_sem, ↓reduceIte, reduceCtorEq, Nat.reduceLT, Nat.reduceLeDiff, Nat.reduceEqDiff, Nat.reduceMul, Nat.reduceAdd, Nat.reduceSub, Int.reduceLE, Int.reduceLT]
              repeat refine And.intro (by first | assumption | (show chk _ _ _ = true; kernel_rfl) | omega | (simp; done)) ?_
              obtain ⟨y8_9, hy8_9, h⟩ := bd h
              refine aCall_of (mark_entry.spec hy8_9) ?_
              obtain ⟨hg8_11, h⟩ := gd h
              try simp (maxSteps := 2000000) only [go_sem, ↓reduceIte, reduceCtorEq, Nat.reduceLT, Nat.reduceLeDiff, Nat.reduceEqDiff, Nat.reduceMul, Nat.reduceAdd, Nat.reduceSub, Int.reduceLE, Int.reduceLT]
              repeat refine And.intro (by first | assumption | (show chk _ _ _ = true; kernel_rfl) | omega | (simp; done)) ?_
              refine Round.fx (k1, x10_1 ++ ([y8_9]), IntKind.i64.wrap (x28_1 + 1)) h (Nat.lt_succ_self k1) ?_
              (try simp only [go_sem, List.map_set, rowsD_append, rowsD_cons, rowsD_nil, rowsD_set, rowsD_take, rowsD_drop, rowsD_replicate]) <;> (repeat' first | exact FlexV.nil | exact FlexT.refl _ | exact FlexT.none _ | exact FlexT.frz _ _ | exact FlexT.nil _ | exact FlexB.nil | exact FlexL.refl _ | exact FlexL.nil _ | exact FlexL.frz _ _ | refine FlexV.cons ?_ ?_ | refine FlexT.box ?_ | refine FlexB.cons ?_ ?_ | refine Flex.mk ?_)
            · replace h := ifn h (by first | (simpa using hb) | (simp at hb ⊢; grind))
              try simp (maxSteps := 2000000) only [go_sem, ↓reduceIte, reduceCtorEq, Nat.reduceLT, Nat.reduceLeDiff, Nat.reduceEqDiff, Nat.reduceMul, Nat.reduceAdd, Nat.reduceSub, Int.reduceLE, Int.reduceLT]
              repeat refine And.intro (by first | assumption | (show chk _ _ _ = true; kernel_rfl) | omega | (simp; done)) ?_
              refine Round.fx (k1, x10_1, IntKind.i64.wrap (x28_1 + 1)) h (Nat.lt_succ_self k1) ?_
              (try simp only [go_sem, List.map_set, rowsD_append, rowsD_cons, rowsD_nil, rowsD_set, rowsD_take, rowsD_drop, rowsD_replicate]) <;> (repeat' first | exact FlexV.nil | exact FlexT.refl _ | exact FlexT.none _ | exact FlexT.frz _ _ | exact FlexT.nil _ | exact FlexB.nil | exact FlexL.refl _ | exact FlexL.nil _ | exact FlexL.frz _ _ | refine FlexV.cons ?_ ?_ | refine FlexT.box ?_ | refine FlexB.cons ?_ ?_ | refine Flex.mk ?_)
          · replace h := ifn h (by first | (simpa using hb) | (simp at hb ⊢; grind))
            try simp (maxSteps := 2000000) only [go_sem, ↓reduceIte, reduceCtorEq, Nat.reduceLT, Nat.reduceLeDiff, Nat.reduceEqDiff, Nat.reduceMul, Nat.reduceAdd, Nat.reduceSub, Int.reduceLE, Int.reduceLT]
            repeat refine And.intro (by first | assumption | (show chk _ _ _ = true; kernel_rfl) | omega | (simp; done)) ?_
            refine Round.fx (k1, x10_1, IntKind.i64.wrap (x28_1 + 1)) h (Nat.lt_succ_self k1) ?_
            (try simp only [go_sem, List.map_set, rowsD_append, rowsD_cons, rowsD_nil, rowsD_set, rowsD_take, rowsD_drop, rowsD_replicate]) <;> (repeat' first | exact FlexV.nil | exact FlexT.refl _ | exact FlexT.none _ | exact FlexT.frz _ _ | exact FlexT.nil _ | exact FlexB.nil | exact FlexL.refl _ | exact FlexL.nil _ | exact FlexL.frz _ _ | refine FlexV.cons ?_ ?_ | refine FlexT.box ?_ | refine FlexB.cons ?_ ?_ | refine Flex.mk ?_)
        · replace h := ifn h (by first | (simpa using hb) | (simp at hb ⊢; grind))
          obtain rfl := Option.some.inj h
          have h := q1
          try dsimp only at h
          obtain rfl := Option.some.inj h
          simp (maxSteps := 2000000) only [go_sem, ↓reduceIte, reduceCtorEq, Nat.reduceLT, Nat.reduceLeDiff, Nat.reduceEqDiff, Nat.reduceMul, Nat.reduceAdd, Nat.reduceSub, Int.reduceLE, Int.reduceLT] <;> first | rfl | ((repeat (first | refine And.intro (by first | assumption | (show chk _ _ _ = true; kernel_rfl) | omega | (simp; done)) ?_ | rfl | simp only [rowsD_append, rowsD_cons, rowsD_nil, rowsD_set, rowsD_take, rowsD_drop, rowsD_replicate])); done) | (simp only [rowsD_append, rowsD_cons, rowsD_nil, rowsD_set, rowsD_take, rowsD_drop, rowsD_replicate]; done) | (simp only [rowsD_append, rowsD_cons, rowsD_nil, rowsD_set, rowsD_take, rowsD_drop, rowsD_replicate]; rfl)
    · replace h := ifp h (by first | (simpa using hb) | (simp at hb ⊢; grind))
      obtain rfl := Option.some.inj h
      simp (maxSteps := 2000000) only [go_sem, ↓reduceIte, reduceCtorEq, Nat.reduceLT, Nat.reduceLeDiff, Nat.reduceEqDiff, Nat.reduceMul, Nat.reduceAdd, Nat.reduceSub, Int.reduceLE, Int.reduceLT] <;> first | rfl | ((repeat (first | refine And.intro (by first | assumption | (show chk _ _ _ = true; kernel_rfl) | omega | (simp; done)) ?_ | rfl | simp only [rowsD_append, rowsD_cons, rowsD_nil, rowsD_set, rowsD_take, rowsD_drop, rowsD_replicate])); done) | (simp only [rowsD_append, rowsD_cons, rowsD_nil, rowsD_set, rowsD_take, rowsD_drop, rowsD_replicate]; done) | (simp only [rowsD_append, rowsD_cons, rowsD_nil, rowsD_set, rowsD_take, rowsD_drop, rowsD_replicate]; rfl)
  · replace h := ifp h (by first | (simpa using hb) | (simp at hb ⊢; grind))
    obtain rfl := Option.some.inj h
    simp (maxSteps := 2000000) only [go_sem, ↓reduceIte, reduceCtorEq, Nat.reduceLT, Nat.reduceLeDiff, Nat.reduceEqDiff, Nat.reduceMul, Nat.reduceAdd, Nat.reduceSub, Int.reduceLE, Int.reduceLT] <;> first | rfl | ((repeat (first | refine And.intro (by first | assumption | (show chk _ _ _ = true; kernel_rfl) | omega | (simp; done)) ?_ | rfl | simp only [rowsD_append, rowsD_cons, rowsD_nil, rowsD_set, rowsD_take, rowsD_drop, rowsD_replicate])); done) | (simp only [rowsD_append, rowsD_cons, rowsD_nil, rowsD_set, rowsD_take, rowsD_drop, rowsD_replicate]; done) | (simp only [rowsD_append, rowsD_cons, rowsD_nil, rowsD_set, rowsD_take, rowsD_drop, rowsD_replicate]; rfl)
end Go.Ax

/- The walk of novationhelp_Entries, printed by gen.py. -/
set_option linter.unusedSimpArgs false
set_option linter.unusedVariables false
namespace Go.Ax
open Go Go.Proofs
set_option maxRecDepth 100000
set_option maxHeartbeats 4000000
theorem novationhelp_Entries.spec {a0 : List api_Entry} {a1 : List novationref10_Part} {r : Bool} (h : novationhelp_Entries.f a0 a1 = some r) : FSpec Try.prog 14 [(false, [.l (rowsD api_Entry.D a0)]), (false, [.l (rowsD novationref10_Part.D a1)])] [.one (.d (.v (.bool r)))] := by
  unfold novationhelp_Entries.f at h
  refine fspec_data mixed Try.func14 rfl (by decide) [0, 1, 4, 5] (rs := [.tmp 4]) rfl (by decide) (n := 55) rfl (by simp) ?_
  try simp (maxSteps := 2000000) only [go_sem, ↓reduceIte, reduceCtorEq, Nat.reduceLT, Nat.reduceLeDiff, Nat.reduceEqDiff, Nat.reduceMul, Nat.reduceAdd, Nat.reduceSub, Int.reduceLE, Int.reduceLT]
  repeat refine And.intro (by first | assumption | (show chk _ _ _ = true; kernel_rfl) | omega | (simp; done)) ?_
  refine kIf_of (fun hb => ?_) (fun hb => ?_)
  · replace h := ifp h (by first | (simpa using hb) | (simp at hb ⊢; grind))
    obtain rfl := Option.some.inj h
    simp (maxSteps := 2000000) only [go_sem, ↓reduceIte, reduceCtorEq, Nat.reduceLT, Nat.reduceLeDiff, Nat.reduceEqDiff, Nat.reduceMul, Nat.reduceAdd, Nat.reduceSub, Int.reduceLE, Int.reduceLT] <;> first | rfl | ((repeat (first | refine And.intro (by first | assumption | (show chk _ _ _ = true; kernel_rfl) | omega | (simp; done)) ?_ | rfl | simp only [rowsD_append, rowsD_cons, rowsD_nil, rowsD_set, rowsD_take, rowsD_drop, rowsD_replicate])); done) | (simp only [rowsD_append, rowsD_cons, rowsD_nil, rowsD_set, rowsD_take, rowsD_drop, rowsD_replicate]; done) | (simp only [rowsD_append, rowsD_cons, rowsD_nil, rowsD_set, rowsD_take, rowsD_drop, rowsD_replicate]; rfl)
  · replace h := ifn h (by first | (simpa using hb) | (simp at hb ⊢; grind))
    try simp (maxSteps := 2000000) only [go_sem, ↓reduceIte, reduceCtorEq, Nat.reduceLT, Nat.reduceLeDiff, Nat.reduceEqDiff, Nat.reduceMul, Nat.reduceAdd, Nat.reduceSub, Int.reduceLE, Int.reduceLT]
    repeat refine And.intro (by first | assumption | (show chk _ _ _ = true; kernel_rfl) | omega | (simp; done)) ?_
    obtain ⟨f1, h1, q1⟩ := bd h
    rw [aCode_loop]
    refine aLoop_fx (α := Nat × Int) (fun p => (⟨55, [], [(0, .one (.l (rowsD api_Entry.D a0))), (1, .one (.l (rowsD novationref10_Part.D a1))), (4, .one (.v (.bool false))), (5, .one (.v (.int .i64 p.2)))]⟩ : S)) (fun p => novationhelp_Entries.l0 a0 a1 p.1 p.2 = some f1) (fun p => p.1) (FUEL, 0) h1 ?_ ?_
    · (try simp only [go_sem, List.map_set, rowsD_append, rowsD_cons, rowsD_nil, rowsD_set, rowsD_take, rowsD_drop, rowsD_replicate]) <;> (repeat' first | exact FlexV.nil | exact FlexT.refl _ | exact FlexT.none _ | exact FlexT.frz _ _ | exact FlexT.nil _ | exact FlexB.nil | exact FlexL.refl _ | exact FlexL.nil _ | exact FlexL.frz _ _ | refine FlexV.cons ?_ ?_ | refine FlexT.box ?_ | refine FlexB.cons ?_ ?_ | refine Flex.mk ?_)
    rintro ⟨k1, x5_1⟩ h
    simp only at h
    obtain _ | k1 := k1
    · exact absurd h (by simp [novationhelp_Entries.l0])
    rw [novationhelp_Entries.l0] at h
    try simp (maxSteps := 2000000) only [go_sem, ↓reduceIte, reduceCtorEq, Nat.reduceLT, Nat.reduceLeDiff, Nat.reduceEqDiff, Nat.reduceMul, Nat.reduceAdd, Nat.reduceSub, Int.reduceLE, Int.reduceLT]
    repeat refine And.intro (by first | assumption | (show chk _ _ _ = true; kernel_rfl) | omega | (simp; done)) ?_
    refine kIf_of (fun hb => ?_) (fun hb => ?_)
    · replace h := ifp h (by first | (simpa using hb) | (simp at hb ⊢; grind))
      obtain ⟨⟨hg6_2_0, hg6_2_1⟩, h⟩ := gd h
      obtain ⟨⟨hg6_7_0, hg6_7_1⟩, h⟩ := gd h
      try simp (maxSteps := 2000000) only [go_sem, ↓reduceIte, reduceCtorEq, Nat.reduceLT, Nat.reduceLeDiff, Nat.reduceEqDiff, Nat.reduceMul, Nat.reduceAdd, Nat.reduceSub, Int.reduceLE, Int.reduceLT]
      repeat refine And.intro (by first | assumption | (show chk _ _ _ = true; kernel_rfl) | omega | (simp; done)) ?_
      refine kIf_of (fun hb => ?_) (fun hb => ?_)
      · replace h := ifn h (by first | (simpa using hb) | (simp at hb ⊢; grind))
        try simp (maxSteps := 2000000) only [go_sem, ↓reduceIte, reduceCtorEq, Nat.reduceLT, Nat.reduceLeDiff, Nat.reduceEqDiff, Nat.reduceMul, Nat.reduceAdd, Nat.reduceSub, Int.reduceLE, Int.reduceLT]
        repeat refine And.intro (by first | assumption | (show chk _ _ _ = true; kernel_rfl) | omega | (simp; done)) ?_
        refine kIf_of (fun hb => ?_) (fun hb => ?_)
        · replace h := ifn h (by first | (simpa using hb) | (simp at hb ⊢; grind))
          try simp (maxSteps := 2000000) only [go_sem, ↓reduceIte, reduceCtorEq, Nat.reduceLT, Nat.reduceLeDiff, Nat.reduceEqDiff, Nat.reduceMul, Nat.reduceAdd, Nat.reduceSub, Int.reduceLE, Int.reduceLT]
          repeat refine And.intro (by first | assumption | (show chk _ _ _ = true; kernel_rfl) | omega | (simp; done)) ?_
          obtain ⟨y6_35, hy6_35, h⟩ := bd h
          refine aCall_of (novationhelp_Wide.spec hy6_35) ?_
          try simp (maxSteps := 2000000) only [go_sem, ↓reduceIte, reduceCtorEq, Nat.reduceLT, Nat.reduceLeDiff, Nat.reduceEqDiff, Nat.reduceMul, Nat.reduceAdd, Nat.reduceSub, Int.reduceLE, Int.reduceLT]
          repeat refine And.intro (by first | assumption | (show chk _ _ _ = true; kernel_rfl) | omega | (simp; done)) ?_
          refine kIf_of (fun hb => ?_) (fun hb => ?_)
          · replace h := ifp h (by first | (simpa using hb) | (simp at hb ⊢; grind))
            obtain rfl := Option.some.inj h
            have h := q1
            simp only [Flow.go_ret, Flow.goL_ret] at h
            obtain rfl := Option.some.inj h
            simp (maxSteps := 2000000) only [go_sem, ↓reduceIte, reduceCtorEq, Nat.reduceLT, Nat.reduceLeDiff, Nat.reduceEqDiff, Nat.reduceMul, Nat.reduceAdd, Nat.reduceSub, Int.reduceLE, Int.reduceLT] <;> first | rfl | ((repeat (first | refine And.intro (by first | assumption | (show chk _ _ _ = true; kernel_rfl) | omega | (simp; done)) ?_ | rfl | simp only [rowsD_append, rowsD_cons, rowsD_nil, rowsD_set, rowsD_take, rowsD_drop, rowsD_replicate])); done) | (simp only [rowsD_append, rowsD_cons, rowsD_nil, rowsD_set, rowsD_take, rowsD_drop, rowsD_replicate]; done) | (simp only [rowsD_append, rowsD_cons, rowsD_nil, rowsD_set, rowsD_take, rowsD_drop, rowsD_replicate]; rfl)
          · replace h := ifn h (by first | (simpa using hb) | (simp at hb ⊢; grind))
            try simp (maxSteps := 2000000) only [go_sem, ↓reduceIte, reduceCtorEq, Nat.reduceLT, Nat.reduceLeDiff, Nat.reduceEqDiff, Nat.reduceMul, Nat.reduceAdd, Nat.reduceSub, Int.reduceLE, Int.reduceLT]
            repeat refine And.intro (by first | assumption | (show chk _ _ _ = true; kernel_rfl) | omega | (simp; done)) ?_
            refine Round.fx (k1, IntKind.i64.wrap (x5_1 + 1)) h (Nat.lt_succ_self k1) ?_
            (try simp only [go_sem, List.map_set, rowsD_append, rowsD_cons, rowsD_nil, rowsD_set, rowsD_take, rowsD_drop, rowsD_replicate]) <;> (repeat' first | exact FlexV.nil | exact FlexT.refl _ | exact FlexT.none _ | exact FlexT.frz _ _ | exact FlexT.nil _ | exact FlexB.nil | exact FlexL.refl _ | exact FlexL.nil _ | exact FlexL.frz _ _ | refine FlexV.cons ?_ ?_ | refine FlexT.box ?_ | refine FlexB.cons ?_ ?_ | refine Flex.mk ?_)
        · replace h := ifp h (by first | (simpa using hb) | (simp at hb ⊢; grind))
          obtain rfl := Option.some.inj h
          have h := q1
          simp only [Flow.go_ret, Flow.goL_ret] at h
          obtain rfl := Option.some.inj h
          simp (maxSteps := 2000000) only [go_sem, ↓reduceIte, reduceCtorEq, Nat.reduceLT, Nat.reduceLeDiff, Nat.reduceEqDiff, Nat.reduceMul, Nat.reduceAdd, Nat.reduceSub, Int.reduceLE, Int.reduceLT] <;> first | rfl | ((repeat (first | refine And.intro (by first | assumption | (show chk _ _ _ = true; kernel_rfl) | omega | (simp; done)) ?_ | rfl | simp only [rowsD_append, rowsD_cons, rowsD_nil, rowsD_set, rowsD_take, rowsD_drop, rowsD_replicate])); done) | (simp only [rowsD_append, rowsD_cons, rowsD_nil, rowsD_set, rowsD_take, rowsD_drop, rowsD_replicate]; done) | (simp only [rowsD_append, rowsD_cons, rowsD_nil, rowsD_set, rowsD_take, rowsD_drop, rowsD_replicate]; rfl)
      · replace h := ifp h (by first | (simpa using hb) | (simp at hb ⊢; grind))
        obtain rfl := Option.some.inj h
        have h := q1
        simp only [Flow.go_ret, Flow.goL_ret] at h
        obtain rfl := Option.some.inj h
        simp (maxSteps := 2000000) only [go_sem, ↓reduceIte, reduceCtorEq, Nat.reduceLT, Nat.reduceLeDiff, Nat.reduceEqDiff, Nat.reduceMul, Nat.reduceAdd, Nat.reduceSub, Int.reduceLE, Int.reduceLT] <;> first | rfl | ((repeat (first | refine And.intro (by first | assumption | (show chk _ _ _ = true; kernel_rfl) | omega | (simp; done)) ?_ | rfl | simp only [rowsD_append, rowsD_cons, rowsD_nil, rowsD_set, rowsD_take, rowsD_drop, rowsD_replicate])); done) | (simp only [rowsD_append, rowsD_cons, rowsD_nil, rowsD_set, rowsD_take, rowsD_drop, rowsD_replicate]; done) | (simp only [rowsD_append, rowsD_cons, rowsD_nil, rowsD_set, rowsD_take, rowsD_drop, rowsD_replicate]; rfl)
    · replace h := ifn h (by first | (simpa using hb) | (simp at hb ⊢; grind))
      obtain rfl := Option.some.inj h
      have h := q1
      simp only [Flow.go_out, Flow.goL_out] at h
      try dsimp only at h
      obtain rfl := Option.some.inj h
      simp (maxSteps := 2000000) only [go_sem, ↓reduceIte, reduceCtorEq, Nat.reduceLT, Nat.reduceLeDiff, Nat.reduceEqDiff, Nat.reduceMul, Nat.reduceAdd, Nat.reduceSub, Int.reduceLE, Int.reduceLT] <;> first | rfl | ((repeat (first | refine And.intro (by first | assumption | (show chk _ _ _ = true; kernel_rfl) | omega | (simp; done)) ?_ | rfl | simp only [rowsD_append, rowsD_cons, rowsD_nil, rowsD_set, rowsD_take, rowsD_drop, rowsD_replicate])); done) | (simp only [rowsD_append, rowsD_cons, rowsD_nil, rowsD_set, rowsD_take, rowsD_drop, rowsD_replicate]; done) | (simp only [rowsD_append, rowsD_cons, rowsD_nil, rowsD_set, rowsD_take, rowsD_drop, rowsD_replicate]; rfl)
end Go.Ax
