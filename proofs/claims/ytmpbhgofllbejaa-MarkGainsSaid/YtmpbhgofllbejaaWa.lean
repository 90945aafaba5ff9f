/- The walk of ledger_Key, printed by gen.py. -/
import Derived.Test.YtmpbhgofllbejaaGa
import Derived.Test.YtmpbhgofllbejaaGs
set_option linter.unusedVariables false
set_option linter.unusedSimpArgs false
set_option linter.unusedSimpArgs false
set_option linter.unusedVariables false
namespace Go.Ax
open Go Go.Proofs
set_option maxRecDepth 100000
set_option maxHeartbeats 4000000
theorem ledger_Key.spec {a0 : Int} {a1 : Int} {r : Bool} (h : ledger_Key.f a0 a1 = some r) : FSpec Try.prog 33 [(false, [.v (.int .i64 a0)]), (false, [.v (.int .i64 a1)])] [.one (.d (.v (.bool r)))] := by
  unfold ledger_Key.f at h
  refine fspec_data mixed Try.func33 rfl (by decide) [0, 1, 4, 5, 6, 21] (rs := [.tmp 4]) rfl (by decide) (n := 30) rfl (by simp) ?_
  try simp (maxSteps := 2000000) only [go_sem, ↓reduceIte, reduceCtorEq, Nat.reduceLT, Nat.reduceLeDiff, Nat.reduceEqDiff, Nat.reduceMul, Nat.reduceAdd, Nat.reduceSub, Int.reduceLE, Int.reduceLT]
  repeat refine And.intro (by first | assumption | (show chk _ _ _ = true; kernel_rfl) | omega | (simp; done)) ?_
  refine kIf_of (fun hb => ?_) (fun hb => ?_)
  · replace h := ifp h (by first | (simpa using hb) | (simp at hb ⊢; grind))
    try simp (maxSteps := 2000000) only [go_sem, ↓reduceIte, reduceCtorEq, Nat.reduceLT, Nat.reduceLeDiff, Nat.reduceEqDiff, Nat.reduceMul, Nat.reduceAdd, Nat.reduceSub, Int.reduceLE, Int.reduceLT]
    repeat refine And.intro (by first | assumption | (show chk _ _ _ = true; kernel_rfl) | omega | (simp; done)) ?_
    refine kIf_of (fun hb => ?_) (fun hb => ?_)
    · replace h := ifp h (by first | (simpa using hb) | (simp at hb ⊢; grind))
      obtain rfl := Option.some.inj h
      simp (maxSteps := 2000000) only [go_sem, ↓reduceIte, reduceCtorEq, Nat.reduceLT, Nat.reduceLeDiff, Nat.reduceEqDiff, Nat.reduceMul, Nat.reduceAdd, Nat.reduceSub, Int.reduceLE, Int.reduceLT] <;> first | rfl | ((repeat (first | refine And.intro (by first | assumption | (show chk _ _ _ = true; kernel_rfl) | omega | (simp; done)) ?_ | rfl | simp only [rowsD_append, rowsD_cons, rowsD_nil, rowsD_set, rowsD_take, rowsD_drop, rowsD_replicate])); done) | (simp only [rowsD_append, rowsD_cons, rowsD_nil, rowsD_set, rowsD_take, rowsD_drop, rowsD_replicate]; done) | (simp only [rowsD_append, rowsD_cons, rowsD_nil, rowsD_set, rowsD_take, rowsD_drop, rowsD_replicate]; rfl)
    · replace h := ifn h (by first | (simpa using hb) | (simp at hb ⊢; grind))
      try simp (maxSteps := 2000000) only [go_sem, ↓reduceIte, reduceCtorEq, Nat.reduceLT, Nat.reduceLeDiff, Nat.reduceEqDiff, Nat.reduceMul, Nat.reduceAdd, Nat.reduceSub, Int.reduceLE, Int.reduceLT]
      repeat refine And.intro (by first | assumption | (show chk _ _ _ = true; kernel_rfl) | omega | (simp; done)) ?_
      refine kIf_of (fun hb => ?_) (fun hb => ?_)
      · replace h := ifp h (by first | (simpa using hb) | (simp at hb ⊢; grind))
        try simp (maxSteps := 2000000) only [go_sem, ↓reduceIte, reduceCtorEq, Nat.reduceLT, Nat.reduceLeDiff, Nat.reduceEqDiff, Nat.reduceMul, Nat.reduceAdd, Nat.reduceSub, Int.reduceLE, Int.reduceLT]
        repeat refine And.intro (by first | assumption | (show chk _ _ _ = true; kernel_rfl) | omega | (simp; done)) ?_
        refine kIf_of (fun hb => ?_) (fun hb => ?_)
        · replace h := ifp h (by first | (simpa using hb) | (simp at hb ⊢; grind))
          obtain rfl := Option.some.inj h
          simp (maxSteps := 2000000) only [go_sem, ↓reduceIte, reduceCtorEq, Nat.reduceLT, Nat.reduceLeDiff, Nat.reduceEqDiff, Nat.reduceMul, Nat.reduceAdd, Nat.reduceSub, Int.reduceLE, Int.reduceLT] <;> first | rfl | ((repeat (first | refine And.intro (by first | assumption | (show chk _ _ _ = true; kernel_rfl) | omega | (simp; done)) ?_ | rfl | simp only [rowsD_append, rowsD_cons, rowsD_nil, rowsD_set, rowsD_take, rowsD_drop, rowsD_replicate])); done) | (simp only [rowsD_append, rowsD_cons, rowsD_nil, rowsD_set, rowsD_take, rowsD_drop, rowsD_replicate]; done) | (simp only [rowsD_append, rowsD_cons, rowsD_nil, rowsD_set, rowsD_take, rowsD_drop, rowsD_replicate]; rfl)
        · replace h := ifn h (by first | (simpa using hb) | (simp at hb ⊢; grind))
          obtain rfl := Option.some.inj h
          simp (maxSteps := 2000000) only [go_sem, ↓reduceIte, reduceCtorEq, Nat.reduceLT, Nat.reduceLeDiff, Nat.reduceEqDiff, Nat.reduceMul, Nat.reduceAdd, Nat.reduceSub, Int.reduceLE, Int.reduceLT] <;> first | rfl | ((repeat (first | refine And.intro (by first | assumption | (show chk _ _ _ = true; kernel_rfl) | omega | (simp; done)) ?_ | rfl | simp only [rowsD_append, rowsD_cons, rowsD_nil, rowsD_set, rowsD_take, rowsD_drop, rowsD_replicate])); done) | (simp only [rowsD_append, rowsD_cons, rowsD_nil, rowsD_set, rowsD_take, rowsD_drop, rowsD_replicate]; done) | (simp only [rowsD_append, rowsD_cons, rowsD_nil, rowsD_set, rowsD_take, rowsD_drop, rowsD_replicate]; rfl)
      · replace h := ifn h (by first | (simpa using hb) | (simp at hb ⊢; grind))
        try simp (maxSteps := 2000000) only [go_sem, ↓reduceIte, reduceCtorEq, Nat.reduceLT, Nat.reduceLeDiff, Nat.reduceEqDiff, Nat.reduceMul, Nat.reduceAdd, Nat.reduceSub, Int.reduceLE, Int.reduceLT]
        repeat refine And.intro (by first | assumption | (show chk _ _ _ = true; kernel_rfl) | omega | (simp; done)) ?_
        refine kIf_of (fun hb => ?_) (fun hb => ?_)
        · replace h := ifp h (by first | (simpa using hb) | (simp at hb ⊢; grind))
          try simp (maxSteps := 2000000) only [go_sem, ↓reduceIte, reduceCtorEq, Nat.reduceLT, Nat.reduceLeDiff, Nat.reduceEqDiff, Nat.reduceMul, Nat.reduceAdd, Nat.reduceSub, Int.reduceLE, Int.reduceLT]
          repeat refine And.intro (by first | assumption | (show chk _ _ _ = true; kernel_rfl) | omega | (simp; done)) ?_
          refine kIf_of (fun hb => ?_) (fun hb => ?_)
          · replace h := ifp h (by first | (simpa using hb) | (simp at hb ⊢; grind))
            try simp (maxSteps := 2000000) only [go_sem, ↓reduceIte, reduceCtorEq, Nat.reduceLT, Nat.reduceLeDiff, Nat.reduceEqDiff, Nat.reduceMul, Nat.reduceAdd, Nat.reduceSub, Int.reduceLE, Int.reduceLT]
            repeat refine And.intro (by first | assumption | (show chk _ _ _ = true; kernel_rfl) | omega | (simp; done)) ?_
            refine kIf_of (fun hb => ?_) (fun hb => ?_)
            · replace h := ifp h (by first | (simpa using hb) | (simp at hb ⊢; grind))
              obtain rfl := Option.some.inj h
              simp (maxSteps := 2000000) only [go_sem, ↓reduceIte, reduceCtorEq, Nat.reduceLT, Nat.reduceLeDiff, Nat.reduceEqDiff, Nat.reduceMul, Nat.reduceAdd, Nat.reduceSub, Int.reduceLE, Int.reduceLT] <;> first | rfl | ((repeat (first | refine And.intro (by first | assumption | (show chk _ _ _ = true; kernel_rfl) | omega | (simp; done)) ?_ | rfl | simp only [rowsD_append, rowsD_cons, rowsD_nil, rowsD_set, rowsD_take, rowsD_drop, rowsD_replicate])); done) | (simp only [rowsD_append, rowsD_cons, rowsD_nil, rowsD_set, rowsD_take, rowsD_drop, rowsD_replicate]; done) | (simp only [rowsD_append, rowsD_cons, rowsD_nil, rowsD_set, rowsD_take, rowsD_drop, rowsD_replicate]; rfl)
            · replace h := ifn h (by first | (simpa using hb) | (simp at hb ⊢; grind))
              obtain rfl := Option.some.inj h
              simp (maxSteps := 2000000) only [go_sem, ↓reduceIte, reduceCtorEq, Nat.reduceLT, Nat.reduceLeDiff, Nat.reduceEqDiff, Nat.reduceMul, Nat.reduceAdd, Nat.reduceSub, Int.reduceLE, Int.reduceLT] <;> first | rfl | ((repeat (first | refine And.intro (by first | assumption | (show chk _ _ _ = true; kernel_rfl) | omega | (simp; done)) ?_ | rfl | simp only [rowsD_append, rowsD_cons, rowsD_nil, rowsD_set, rowsD_take, rowsD_drop, rowsD_replicate])); done) | (simp only [rowsD_append, rowsD_cons, rowsD_nil, rowsD_set, rowsD_take, rowsD_drop, rowsD_replicate]; done) | (simp only [rowsD_append, rowsD_cons, rowsD_nil, rowsD_set, rowsD_take, rowsD_drop, rowsD_replicate]; rfl)
          · replace h := ifn h (by first | (simpa using hb) | (simp at hb ⊢; grind))
            obtain rfl := Option.some.inj h
            simp (maxSteps := 2000000) only [go_sem, ↓reduceIte, reduceCtorEq, Nat.reduceLT, Nat.reduceLeDiff, Nat.reduceEqDiff, Nat.reduceMul, Nat.reduceAdd, Nat.reduceSub, Int.reduceLE, Int.reduceLT] <;> first | rfl | ((repeat (first | refine And.intro (by first | assumption | (show chk _ _ _ = true; kernel_rfl) | omega | (simp; done)) ?_ | rfl | simp only [rowsD_append, rowsD_cons, rowsD_nil, rowsD_set, rowsD_take, rowsD_drop, rowsD_replicate])); done) | (simp only [rowsD_append, rowsD_cons, rowsD_nil, rowsD_set, rowsD_take, rowsD_drop, rowsD_replicate]; done) | (simp only [rowsD_append, rowsD_cons, rowsD_nil, rowsD_set, rowsD_take, rowsD_drop, rowsD_replicate]; rfl)
        · replace h := ifn h (by first | (simpa using hb) | (simp at hb ⊢; grind))
          try simp (maxSteps := 2000000) only [go_sem, ↓reduceIte, reduceCtorEq, Nat.reduceLT, Nat.reduceLeDiff, Nat.reduceEqDiff, Nat.reduceMul, Nat.reduceAdd, Nat.reduceSub, Int.reduceLE, Int.reduceLT]
          repeat refine And.intro (by first | assumption | (show chk _ _ _ = true; kernel_rfl) | omega | (simp; done)) ?_
          refine kIf_of (fun hb => ?_) (fun hb => ?_)
          · replace h := ifp h (by first | (simpa using hb) | (simp at hb ⊢; grind))
            try simp (maxSteps := 2000000) only [go_sem, ↓reduceIte, reduceCtorEq, Nat.reduceLT, Nat.reduceLeDiff, Nat.reduceEqDiff, Nat.reduceMul, Nat.reduceAdd, Nat.reduceSub, Int.reduceLE, Int.reduceLT]
            repeat refine And.intro (by first | assumption | (show chk _ _ _ = true; kernel_rfl) | omega | (simp; done)) ?_
            refine kIf_of (fun hb => ?_) (fun hb => ?_)
            · replace h := ifp h (by first | (simpa using hb) | (simp at hb ⊢; grind))
              obtain rfl := Option.some.inj h
              simp (maxSteps := 2000000) only [go_sem, ↓reduceIte, reduceCtorEq, Nat.reduceLT, Nat.reduceLeDiff, Nat.reduceEqDiff, Nat.reduceMul, Nat.reduceAdd, Nat.reduceSub, Int.reduceLE, Int.reduceLT] <;> first | rfl | ((repeat (first | refine And.intro (by first | assumption | (show chk _ _ _ = true; kernel_rfl) | omega | (simp; done)) ?_ | rfl | simp only [rowsD_append, rowsD_cons, rowsD_nil, rowsD_set, rowsD_take, rowsD_drop, rowsD_replicate])); done) | (simp only [rowsD_append, rowsD_cons, rowsD_nil, rowsD_set, rowsD_take, rowsD_drop, rowsD_replicate]; done) | (simp only [rowsD_append, rowsD_cons, rowsD_nil, rowsD_set, rowsD_take, rowsD_drop, rowsD_replicate]; rfl)
            · replace h := ifn h (by first | (simpa using hb) | (simp at hb ⊢; grind))
              obtain rfl := Option.some.inj h
              simp (maxSteps := 2000000) only [go_sem, ↓reduceIte, reduceCtorEq, Nat.reduceLT, Nat.reduceLeDiff, Nat.reduceEqDiff, Nat.reduceMul, Nat.reduceAdd, Nat.reduceSub, Int.reduceLE, Int.reduceLT] <;> first | rfl | ((repeat (first | refine And.intro (by first | assumption | (show chk _ _ _ = true; kernel_rfl) | omega | (simp; done)) ?_ | rfl | simp only [rowsD_append, rowsD_cons, rowsD_nil, rowsD_set, rowsD_take, rowsD_drop, rowsD_replicate])); done) | (simp only [rowsD_append, rowsD_cons, rowsD_nil, rowsD_set, rowsD_take, rowsD_drop, rowsD_replicate]; done) | (simp only [rowsD_append, rowsD_cons, rowsD_nil, rowsD_set, rowsD_take, rowsD_drop, rowsD_replicate]; rfl)
          · replace h := ifn h (by first | (simpa using hb) | (simp at hb ⊢; grind))
            obtain rfl := Option.some.inj h
            simp (maxSteps := 2000000) only [go_sem, ↓reduceIte, reduceCtorEq, Nat.reduceLT, Nat.reduceLeDiff, Nat.reduceEqDiff, Nat.reduceMul, Nat.reduceAdd, Nat.reduceSub, Int.reduceLE, Int.reduceLT] <;> first | rfl | ((repeat (first | refine And.intro (by first | assumption | (show chk _ _ _ = true; kernel_rfl) | omega | (simp; done)) ?_ | rfl | simp only [rowsD_append, rowsD_cons, rowsD_nil, rowsD_set, rowsD_take, rowsD_drop, rowsD_replicate])); done) | (simp only [rowsD_append, rowsD_cons, rowsD_nil, rowsD_set, rowsD_take, rowsD_drop, rowsD_replicate]; done) | (simp only [rowsD_append, rowsD_cons, rowsD_nil, rowsD_set, rowsD_take, rowsD_drop, rowsD_replicate]; rfl)
  · replace h := ifn h (by first | (simpa using hb) | (simp at hb ⊢; grind))
    try simp (maxSteps := 2000000) only [go_sem, ↓reduceIte, reduceCtorEq, Nat.reduceLT, Nat.reduceLeDiff, Nat.reduceEqDiff, Nat.reduceMul, Nat.reduceAdd, Nat.reduceSub, Int.reduceLE, Int.reduceLT]
    repeat refine And.intro (by first | assumption | (show chk _ _ _ = true; kernel_rfl) | omega | (simp; done)) ?_
    refine kIf_of (fun hb => ?_) (fun hb => ?_)
    · replace h := ifp h (by first | (simpa using hb) | (simp at hb ⊢; grind))
      try simp (maxSteps := 2000000) only [go_sem, ↓reduceIte, reduceCtorEq, Nat.reduceLT, Nat.reduceLeDiff, Nat.reduceEqDiff, Nat.reduceMul, Nat.reduceAdd, Nat.reduceSub, Int.reduceLE, Int.reduceLT]
      repeat refine And.intro (by first | assumption | (show chk _ _ _ = true; kernel_rfl) | omega | (simp; done)) ?_
      refine kIf_of (fun hb => ?_) (fun hb => ?_)
      · replace h := ifp h (by first | (simpa using hb) | (simp at hb ⊢; grind))
        obtain rfl := Option.some.inj h
        simp (maxSteps := 2000000) only [go_sem, ↓reduceIte, reduceCtorEq, Nat.reduceLT, Nat.reduceLeDiff, Nat.reduceEqDiff, Nat.reduceMul, Nat.reduceAdd, Nat.reduceSub, Int.reduceLE, Int.reduceLT] <;> first | rfl | ((repeat (first | refine And.intro (by first | assumption | (show chk _ _ _ = true; kernel_rfl) | omega | (simp; done)) ?_ | rfl | simp only [rowsD_append, rowsD_cons, rowsD_nil, rowsD_set, rowsD_take, rowsD_drop, rowsD_replicate])); done) | (simp only [rowsD_append, rowsD_cons, rowsD_nil, rowsD_set, rowsD_take, rowsD_drop, rowsD_replicate]; done) | (simp only [rowsD_append, rowsD_cons, rowsD_nil, rowsD_set, rowsD_take, rowsD_drop, rowsD_replicate]; rfl)
      · replace h := ifn h (by first | (simpa using hb) | (simp at hb ⊢; grind))
        try simp (maxSteps := 2000000) only [go_sem, ↓reduceIte, reduceCtorEq, Nat.reduceLT, Nat.reduceLeDiff, Nat.reduceEqDiff, Nat.reduceMul, Nat.reduceAdd, Nat.reduceSub, Int.reduceLE, Int.reduceLT]
        repeat refine And.intro (by first | assumption | (show chk _ _ _ = true; kernel_rfl) | omega | (simp; done)) ?_
        refine kIf_of (fun hb => ?_) (fun hb => ?_)
        · replace h := ifp h (by first | (simpa using hb) | (simp at hb ⊢; grind))
          try simp (maxSteps := 2000000) only [go_sem, ↓reduceIte, reduceCtorEq, Nat.reduceLT, Nat.reduceLeDiff, Nat.reduceEqDiff, Nat.reduceMul, Nat.reduceAdd, Nat.reduceSub, Int.reduceLE, Int.reduceLT]
          repeat refine And.intro (by first | assumption | (show chk _ _ _ = true; kernel_rfl) | omega | (simp; done)) ?_
          refine kIf_of (fun hb => ?_) (fun hb => ?_)
          · replace h := ifp h (by first | (simpa using hb) | (simp at hb ⊢; grind))
            obtain rfl := Option.some.inj h
            simp (maxSteps := 2000000) only [go_sem, ↓reduceIte, reduceCtorEq, Nat.reduceLT, Nat.reduceLeDiff, Nat.reduceEqDiff, Nat.reduceMul, Nat.reduceAdd, Nat.reduceSub, Int.reduceLE, Int.reduceLT] <;> first | rfl | ((repeat (first | refine And.intro (by first | assumption | (show chk _ _ _ = true; kernel_rfl) | omega | (simp; done)) ?_ | rfl | simp only [rowsD_append, rowsD_cons, rowsD_nil, rowsD_set, rowsD_take, rowsD_drop, rowsD_replicate])); done) | (simp only [rowsD_append, rowsD_cons, rowsD_nil, rowsD_set, rowsD_take, rowsD_drop, rowsD_replicate]; done) | (simp only [rowsD_append, rowsD_cons, rowsD_nil, rowsD_set, rowsD_take, rowsD_drop, rowsD_replicate]; rfl)
          · replace h := ifn h (by first | (simpa using hb) | (simp at hb ⊢; grind))
            obtain rfl := Option.some.inj h
            simp (maxSteps := 2000000) only [go_sem, ↓reduceIte, reduceCtorEq, Nat.reduceLT, Nat.reduceLeDiff, Nat.reduceEqDiff, Nat.reduceMul, Nat.reduceAdd, Nat.reduceSub, Int.reduceLE, Int.reduceLT] <;> first | rfl | ((repeat (first | refine And.intro (by first | assumption | (show chk _ _ _ = true; kernel_rfl) | omega | (simp; done)) ?_ | rfl | simp only [rowsD_append, rowsD_cons, rowsD_nil, rowsD_set, rowsD_take, rowsD_drop, rowsD_replicate])); done) | (simp only [rowsD_append, rowsD_cons, rowsD_nil, rowsD_set, rowsD_take, rowsD_drop, rowsD_replicate]; done) | (simp only [rowsD_append, rowsD_cons, rowsD_nil, rowsD_set, rowsD_take, rowsD_drop, rowsD_replicate]; rfl)
        · replace h := ifn h (by first | (simpa using hb) | (simp at hb ⊢; grind))
          try simp (maxSteps := 2000000) only [go_sem, ↓reduceIte, reduceCtorEq, Nat.reduceLT, Nat.reduceLeDiff, Nat.reduceEqDiff, Nat.reduceMul, Nat.reduceAdd, Nat.reduceSub, Int.reduceLE, Int.reduceLT]
          repeat refine And.intro (by first | assumption | (show chk _ _ _ = true; kernel_rfl) | omega | (simp; done)) ?_
          refine kIf_of (fun hb => ?_) (fun hb => ?_)
          · replace h := ifp h (by first | (simpa using hb) | (simp at hb ⊢; grind))
            try simp (maxSteps := 2000000) only [go_sem, ↓reduceIte, reduceCtorEq, Nat.reduceLT, Nat.reduceLeDiff, Nat.reduceEqDiff, Nat.reduceMul, Nat.reduceAdd, Nat.reduceSub, Int.reduceLE, Int.reduceLT]
            repeat refine And.intro (by first | assumption | (show chk _ _ _ = true; kernel_rfl) | omega | (simp; done)) ?_
            refine kIf_of (fun hb => ?_) (fun hb => ?_)
            · replace h := ifp h (by first | (simpa using hb) | (simp at hb ⊢; grind))
              try simp (maxSteps := 2000000) only [go_sem, ↓reduceIte, reduceCtorEq, Nat.reduceLT, Nat.reduceLeDiff, Nat.reduceEqDiff, Nat.reduceMul, Nat.reduceAdd, Nat.reduceSub, Int.reduceLE, Int.reduceLT]
              repeat refine And.intro (by first | assumption | (show chk _ _ _ = true; kernel_rfl) | omega | (simp; done)) ?_
              refine kIf_of (fun hb => ?_) (fun hb => ?_)
              · replace h := ifp h (by first | (simpa using hb) | (simp at hb ⊢; grind))
                obtain rfl := Option.some.inj h
                simp (maxSteps := 2000000) only [go_sem, ↓reduceIte, reduceCtorEq, Nat.reduceLT, Nat.reduceLeDiff, Nat.reduceEqDiff, Nat.reduceMul, Nat.reduceAdd, Nat.reduceSub, Int.reduceLE, Int.reduceLT] <;> first | rfl | ((repeat (first | refine And.intro (by first | assumption | (show chk _ _ _ = true; kernel_rfl) | omega | (simp; done)) ?_ | rfl | simp only [rowsD_append, rowsD_cons, rowsD_nil, rowsD_set, rowsD_take, rowsD_drop, rowsD_replicate])); done) | (simp only [rowsD_append, rowsD_cons, rowsD_nil, rowsD_set, rowsD_take, rowsD_drop, rowsD_replicate]; done) | (simp only [rowsD_append, rowsD_cons, rowsD_nil, rowsD_set, rowsD_take, rowsD_drop, rowsD_replicate]; rfl)
              · replace h := ifn h (by first | (simpa using hb) | (simp at hb ⊢; grind))
                obtain rfl := Option.some.inj h
                simp (maxSteps := 2000000) only [go_sem, ↓reduceIte, reduceCtorEq, Nat.reduceLT, Nat.reduceLeDiff, Nat.reduceEqDiff, Nat.reduceMul, Nat.reduceAdd, Nat.reduceSub, Int.reduceLE, Int.reduceLT] <;> first | rfl | ((repeat (first | refine And.intro (by first | assumption | (show chk _ _ _ = true; kernel_rfl) | omega | (simp; done)) ?_ | rfl | simp only [rowsD_append, rowsD_cons, rowsD_nil, rowsD_set, rowsD_take, rowsD_drop, rowsD_replicate])); done) | (simp only [rowsD_append, rowsD_cons, rowsD_nil, rowsD_set, rowsD_take, rowsD_drop, rowsD_replicate]; done) | (simp only [rowsD_append, rowsD_cons, rowsD_nil, rowsD_set, rowsD_take, rowsD_drop, rowsD_replicate]; rfl)
            · replace h := ifn h (by first | (simpa using hb) | (simp at hb ⊢; grind))
              obtain rfl := Option.some.inj h
              simp (maxSteps := 2000000) only [go_sem, ↓reduceIte, reduceCtorEq, Nat.reduceLT, Nat.reduceLeDiff, Nat.reduceEqDiff, Nat.reduceMul, Nat.reduceAdd, Nat.reduceSub, Int.reduceLE, Int.reduceLT] <;> first | rfl | ((repeat (first | refine And.intro (by first | assumption | (show chk _ _ _ = true; kernel_rfl) | omega | (simp; done)) ?_ | rfl | simp only [rowsD_append, rowsD_cons, rowsD_nil, rowsD_set, rowsD_take, rowsD_drop, rowsD_replicate])); done) | (simp only [rowsD_append, rowsD_cons, rowsD_nil, rowsD_set, rowsD_take, rowsD_drop, rowsD_replicate]; done) | (simp only [rowsD_append, rowsD_cons, rowsD_nil, rowsD_set, rowsD_take, rowsD_drop, rowsD_replicate]; rfl)
          · replace h := ifn h (by first | (simpa using hb) | (simp at hb ⊢; grind))
            try simp (maxSteps := 2000000) only [go_sem, ↓reduceIte, reduceCtorEq, Nat.reduceLT, Nat.reduceLeDiff, Nat.reduceEqDiff, Nat.reduceMul, Nat.reduceAdd, Nat.reduceSub, Int.reduceLE, Int.reduceLT]
            repeat refine And.intro (by first | assumption | (show chk _ _ _ = true; kernel_rfl) | omega | (simp; done)) ?_
            refine kIf_of (fun hb => ?_) (fun hb => ?_)
            · replace h := ifp h (by first | (simpa using hb) | (simp at hb ⊢; grind))
              try simp (maxSteps := 2000000) only [go_sem, ↓reduceIte, reduceCtorEq, Nat.reduceLT, Nat.reduceLeDiff, Nat.reduceEqDiff, Nat.reduceMul, Nat.reduceAdd, Nat.reduceSub, Int.reduceLE, Int.reduceLT]
              repeat refine And.intro (by first | assumption | (show chk _ _ _ = true; kernel_rfl) | omega | (simp; done)) ?_
              refine kIf_of (fun hb => ?_) (fun hb => ?_)
              · replace h := ifp h (by first | (simpa using hb) | (simp at hb ⊢; grind))
                obtain rfl := Option.some.inj h
                simp (maxSteps := 2000000) only [go_sem, ↓reduceIte, reduceCtorEq, Nat.reduceLT, Nat.reduceLeDiff, Nat.reduceEqDiff, Nat.reduceMul, Nat.reduceAdd, Nat.reduceSub, Int.reduceLE, Int.reduceLT] <;> first | rfl | ((repeat (first | refine And.intro (by first | assumption | (show chk _ _ _ = true; kernel_rfl) | omega | (simp; done)) ?_ | rfl | simp only [rowsD_append, rowsD_cons, rowsD_nil, rowsD_set, rowsD_take, rowsD_drop, rowsD_replicate])); done) | (simp only [rowsD_append, rowsD_cons, rowsD_nil, rowsD_set, rowsD_take, rowsD_drop, rowsD_replicate]; done) | (simp only [rowsD_append, rowsD_cons, rowsD_nil, rowsD_set, rowsD_take, rowsD_drop, rowsD_replicate]; rfl)
              · replace h := ifn h (by first | (simpa using hb) | (simp at hb ⊢; grind))
                obtain rfl := Option.some.inj h
                simp (maxSteps := 2000000) only [go_sem, ↓reduceIte, reduceCtorEq, Nat.reduceLT, Nat.reduceLeDiff, Nat.reduceEqDiff, Nat.reduceMul, Nat.reduceAdd, Nat.reduceSub, Int.reduceLE, Int.reduceLT] <;> first | rfl | ((repeat (first | refine And.intro (by first | assumption | (show chk _ _ _ = true; kernel_rfl) | omega | (simp; done)) ?_ | rfl | simp only [rowsD_append, rowsD_cons, rowsD_nil, rowsD_set, rowsD_take, rowsD_drop, rowsD_replicate])); done) | (simp only [rowsD_append, rowsD_cons, rowsD_nil, rowsD_set, rowsD_take, rowsD_drop, rowsD_replicate]; done) | (simp only [rowsD_append, rowsD_cons, rowsD_nil, rowsD_set, rowsD_take, rowsD_drop, rowsD_replicate]; rfl)
            · replace h := ifn h (by first | (simpa using hb) | (simp at hb ⊢; grind))
              obtain rfl := Option.some.inj h
              simp (maxSteps := 2000000) only [go_sem, ↓reduceIte, reduceCtorEq, Nat.reduceLT, Nat.reduceLeDiff, Nat.reduceEqDiff, Nat.reduceMul, Nat.reduceAdd, Nat.reduceSub, Int.reduceLE, Int.reduceLT] <;> first | rfl | ((repeat (first | refine And.intro (by first | assumption | (show chk _ _ _ = true; kernel_rfl) | omega | (simp; done)) ?_ | rfl | simp only [rowsD_append, rowsD_cons, rowsD_nil, rowsD_set, rowsD_take, rowsD_drop, rowsD_replicate])); done) | (simp only [rowsD_append, rowsD_cons, rowsD_nil, rowsD_set, rowsD_take, rowsD_drop, rowsD_replicate]; done) | (simp only [rowsD_append, rowsD_cons, rowsD_nil, rowsD_set, rowsD_take, rowsD_drop, rowsD_replicate]; rfl)
    · replace h := ifn h (by first | (simpa using hb) | (simp at hb ⊢; grind))
      try simp (maxSteps := 2000000) only [go_sem, ↓reduceIte, reduceCtorEq, Nat.reduceLT, Nat.reduceLeDiff, Nat.reduceEqDiff, Nat.reduceMul, Nat.reduceAdd, Nat.reduceSub, Int.reduceLE, Int.reduceLT]
      repeat refine And.intro (by first | assumption | (show chk _ _ _ = true; kernel_rfl) | omega | (simp; done)) ?_
      refine kIf_of (fun hb => ?_) (fun hb => ?_)
      · replace h := ifp h (by first | (simpa using hb) | (simp at hb ⊢; grind))
        try simp (maxSteps := 2000000) only [go_sem, ↓reduceIte, reduceCtorEq, Nat.reduceLT, Nat.reduceLeDiff, Nat.reduceEqDiff, Nat.reduceMul, Nat.reduceAdd, Nat.reduceSub, Int.reduceLE, Int.reduceLT]
        repeat refine And.intro (by first | assumption | (show chk _ _ _ = true; kernel_rfl) | omega | (simp; done)) ?_
        refine kIf_of (fun hb => ?_) (fun hb => ?_)
        · replace h := ifp h (by first | (simpa using hb) | (simp at hb ⊢; grind))
          obtain rfl := Option.some.inj h
          simp (maxSteps := 2000000) only [go_sem, ↓reduceIte, reduceCtorEq, Nat.reduceLT, Nat.reduceLeDiff, Nat.reduceEqDiff, Nat.reduceMul, Nat.reduceAdd, Nat.reduceSub, Int.reduceLE, Int.reduceLT] <;> first | rfl | ((repeat (first | refine And.intro (by first | assumption | (show chk _ _ _ = true; kernel_rfl) | omega | (simp; done)) ?_ | rfl | simp only [rowsD_append, rowsD_cons, rowsD_nil, rowsD_set, rowsD_take, rowsD_drop, rowsD_replicate])); done) | (simp only [rowsD_append, rowsD_cons, rowsD_nil, rowsD_set, rowsD_take, rowsD_drop, rowsD_replicate]; done) | (simp only [rowsD_append, rowsD_cons, rowsD_nil, rowsD_set, rowsD_take, rowsD_drop, rowsD_replicate]; rfl)
        · replace h := ifn h (by first | (simpa using hb) | (simp at hb ⊢; grind))
          try simp (maxSteps := 2000000) only [go_sem, ↓reduceIte, reduceCtorEq, Nat.reduceLT, Nat.reduceLeDiff, Nat.reduceEqDiff, Nat.reduceMul, Nat.reduceAdd, Nat.reduceSub, Int.reduceLE, Int.reduceLT]
          repeat refine And.intro (by first | assumption | (show chk _ _ _ = true; kernel_rfl) | omega | (simp; done)) ?_
          refine kIf_of (fun hb => ?_) (fun hb => ?_)
          · replace h := ifp h (by first | (simpa using hb) | (simp at hb ⊢; grind))
            try simp (maxSteps := 2000000) only [go_sem, ↓reduceIte, reduceCtorEq, Nat.reduceLT, Nat.reduceLeDiff, Nat.reduceEqDiff, Nat.reduceMul, Nat.reduceAdd, Nat.reduceSub, Int.reduceLE, Int.reduceLT]
            repeat refine And.intro (by first | assumption | (show chk _ _ _ = true; kernel_rfl) | omega | (simp; done)) ?_
            refine kIf_of (fun hb => ?_) (fun hb => ?_)
            · replace h := ifp h (by first | (simpa using hb) | (simp at hb ⊢; grind))
              obtain rfl := Option.some.inj h
              simp (maxSteps := 2000000) only [go_sem, ↓reduceIte, reduceCtorEq, Nat.reduceLT, Nat.reduceLeDiff, Nat.reduceEqDiff, Nat.reduceMul, Nat.reduceAdd, Nat.reduceSub, Int.reduceLE, Int.reduceLT] <;> first | rfl | ((repeat (first | refine And.intro (by first | assumption | (show chk _ _ _ = true; kernel_rfl) | omega | (simp; done)) ?_ | rfl | simp only [rowsD_append, rowsD_cons, rowsD_nil, rowsD_set, rowsD_take, rowsD_drop, rowsD_replicate])); done) | (simp only [rowsD_append, rowsD_cons, rowsD_nil, rowsD_set, rowsD_take, rowsD_drop, rowsD_replicate]; done) | (simp only [rowsD_append, rowsD_cons, rowsD_nil, rowsD_set, rowsD_take, rowsD_drop, rowsD_replicate]; rfl)
            · replace h := ifn h (by first | (simpa using hb) | (simp at hb ⊢; grind))
              obtain rfl := Option.some.inj h
              simp (maxSteps := 2000000) only [go_sem, ↓reduceIte, reduceCtorEq, Nat.reduceLT, Nat.reduceLeDiff, Nat.reduceEqDiff, Nat.reduceMul, Nat.reduceAdd, Nat.reduceSub, Int.reduceLE, Int.reduceLT] <;> first | rfl | ((repeat (first | refine And.intro (by first | assumption | (show chk _ _ _ = true; kernel_rfl) | omega | (simp; done)) ?_ | rfl | simp only [rowsD_append, rowsD_cons, rowsD_nil, rowsD_set, rowsD_take, rowsD_drop, rowsD_replicate])); done) | (simp only [rowsD_append, rowsD_cons, rowsD_nil, rowsD_set, rowsD_take, rowsD_drop, rowsD_replicate]; done) | (simp only [rowsD_append, rowsD_cons, rowsD_nil, rowsD_set, rowsD_take, rowsD_drop, rowsD_replicate]; rfl)
          · replace h := ifn h (by first | (simpa using hb) | (simp at hb ⊢; grind))
            try simp (maxSteps := 2000000) only [go_sem, ↓reduceIte, reduceCtorEq, Nat.reduceLT, Nat.reduceLeDiff, Nat.reduceEqDiff, Nat.reduceMul, Nat.reduceAdd, Nat.reduceSub, Int.reduceLE, Int.reduceLT]
            repeat refine And.intro (by first | assumption | (show chk _ _ _ = true; kernel_rfl) | omega | (simp; done)) ?_
            refine kIf_of (fun hb => ?_) (fun hb => ?_)
            · replace h := ifp h (by first | (simpa using hb) | (simp at hb ⊢; grind))
              try simp (maxSteps := 2000000) only [go_sem, ↓reduceIte, reduceCtorEq, Nat.reduceLT, Nat.reduceLeDiff, Nat.reduceEqDiff, Nat.reduceMul, Nat.reduceAdd, Nat.reduceSub, Int.reduceLE, Int.reduceLT]
              repeat refine And.intro (by first | assumption | (show chk _ _ _ = true; kernel_rfl) | omega | (simp; done)) ?_
              refine kIf_of (fun hb => ?_) (fun hb => ?_)
              · replace h := ifp h (by first | (simpa using hb) | (simp at hb ⊢; grind))
                try simp (maxSteps := 2000000) only [go_sem, ↓reduceIte, reduceCtorEq, Nat.reduceLT, Nat.reduceLeDiff, Nat.reduceEqDiff, Nat.reduceMul, Nat.reduceAdd, Nat.reduceSub, Int.reduceLE, Int.reduceLT]
                repeat refine And.intro (by first | assumption | (show chk _ _ _ = true; kernel_rfl) | omega | (simp; done)) ?_
                refine kIf_of (fun hb => ?_) (fun hb => ?_)
                · replace h := ifp h (by first | (simpa using hb) | (simp at hb ⊢; grind))
                  obtain rfl := Option.some.inj h
                  simp (maxSteps := 2000000) only [go_sem, ↓reduceIte, reduceCtorEq, Nat.reduceLT, Nat.reduceLeDiff, Nat.reduceEqDiff, Nat.reduceMul, Nat.reduceAdd, Nat.reduceSub, Int.reduceLE, Int.reduceLT] <;> first | rfl | ((repeat (first | refine And.intro (by first | assumption | (show chk _ _ _ = true; kernel_rfl) | omega | (simp; done)) ?_ | rfl | simp only [rowsD_append, rowsD_cons, rowsD_nil, rowsD_set, rowsD_take, rowsD_drop, rowsD_replicate])); done) | (simp only [rowsD_append, rowsD_cons, rowsD_nil, rowsD_set, rowsD_take, rowsD_drop, rowsD_replicate]; done) | (simp only [rowsD_append, rowsD_cons, rowsD_nil, rowsD_set, rowsD_take, rowsD_drop, rowsD_replicate]; rfl)
                · replace h := ifn h (by first | (simpa using hb) | (simp at hb ⊢; grind))
                  obtain rfl := Option.some.inj h
                  simp (maxSteps := 2000000) only [go_sem, ↓reduceIte, reduceCtorEq, Nat.reduceLT, Nat.reduceLeDiff, Nat.reduceEqDiff, Nat.reduceMul, Nat.reduceAdd, Nat.reduceSub, Int.reduceLE, Int.reduceLT] <;> first | rfl | ((repeat (first | refine And.intro (by first | assumption | (show chk _ _ _ = true; kernel_rfl) | omega | (simp; done)) ?_ | rfl | simp only [rowsD_append, rowsD_cons, rowsD_nil, rowsD_set, rowsD_take, rowsD_drop, rowsD_replicate])); done) | (simp only [rowsD_append, rowsD_cons, rowsD_nil, rowsD_set, rowsD_take, rowsD_drop, rowsD_replicate]; done) | (simp only [rowsD_append, rowsD_cons, rowsD_nil, rowsD_set, rowsD_take, rowsD_drop, rowsD_replicate]; rfl)
              · replace h := ifn h (by first | (simpa using hb) | (simp at hb ⊢; grind))
                obtain rfl := Option.some.inj h
                simp (maxSteps := 2000000) only [go_sem, ↓reduceIte, reduceCtorEq, Nat.reduceLT, Nat.reduceLeDiff, Nat.reduceEqDiff, Nat.reduceMul, Nat.reduceAdd, Nat.reduceSub, Int.reduceLE, Int.reduceLT] <;> first | rfl | ((repeat (first | refine And.intro (by first | assumption | (show chk _ _ _ = true; kernel_rfl) | omega | (simp; done)) ?_ | rfl | simp only [rowsD_append, rowsD_cons, rowsD_nil, rowsD_set, rowsD_take, rowsD_drop, rowsD_replicate])); done) | (simp only [rowsD_append, rowsD_cons, rowsD_nil, rowsD_set, rowsD_take, rowsD_drop, rowsD_replicate]; done) | (simp only [rowsD_append, rowsD_cons, rowsD_nil, rowsD_set, rowsD_take, rowsD_drop, rowsD_replicate]; rfl)
            · replace h := ifn h (by first | (simpa using hb) | (simp at hb ⊢; grind))
              try simp (maxSteps := 2000000) only [go_sem, ↓reduceIte, reduceCtorEq, Nat.reduceLT, Nat.reduceLeDiff, Nat.reduceEqDiff, Nat.reduceMul, Nat.reduceAdd, Nat.reduceSub, Int.reduceLE, Int.reduceLT]
              repeat refine And.intro (by first | assumption | (show chk _ _ _ = true; kernel_rfl) | omega | (simp; done)) ?_
              refine kIf_of (fun hb => ?_) (fun hb => ?_)
              · replace h := ifp h (by first | (simpa using hb) | (simp at hb ⊢; grind))
                try simp (maxSteps := 2000000) only [go_sem, ↓reduceIte, reduceCtorEq, Nat.reduceLT, Nat.reduceLeDiff, Nat.reduceEqDiff, Nat.reduceMul, Nat.reduceAdd, Nat.reduceSub, Int.reduceLE, Int.reduceLT]
                repeat refine And.intro (by first | assumption | (show chk _ _ _ = true; kernel_rfl) | omega | (simp; done)) ?_
                refine kIf_of (fun hb => ?_) (fun hb => ?_)
                · replace h := ifp h (by first | (simpa using hb) | (simp at hb ⊢; grind))
                  obtain rfl := Option.some.inj h
                  simp (maxSteps := 2000000) only [go_sem, ↓reduceIte, reduceCtorEq, Nat.reduceLT, Nat.reduceLeDiff, Nat.reduceEqDiff, Nat.reduceMul, Nat.reduceAdd, Nat.reduceSub, Int.reduceLE, Int.reduceLT] <;> first | rfl | ((repeat (first | refine And.intro (by first | assumption | (show chk _ _ _ = true; kernel_rfl) | omega | (simp; done)) ?_ | rfl | simp only [rowsD_append, rowsD_cons, rowsD_nil, rowsD_set, rowsD_take, rowsD_drop, rowsD_replicate])); done) | (simp only [rowsD_append, rowsD_cons, rowsD_nil, rowsD_set, rowsD_take, rowsD_drop, rowsD_replicate]; done) | (simp only [rowsD_append, rowsD_cons, rowsD_nil, rowsD_set, rowsD_take, rowsD_drop, rowsD_replicate]; rfl)
                · replace h := ifn h (by first | (simpa using hb) | (simp at hb ⊢; grind))
                  obtain rfl := Option.some.inj h
                  simp (maxSteps := 2000000) only [go_sem, ↓reduceIte, reduceCtorEq, Nat.reduceLT, Nat.reduceLeDiff, Nat.reduceEqDiff, Nat.reduceMul, Nat.reduceAdd, Nat.reduceSub, Int.reduceLE, Int.reduceLT] <;> first | rfl | ((repeat (first | refine And.intro (by first | assumption | (show chk _ _ _ = true; kernel_rfl) | omega | (simp; done)) ?_ | rfl | simp only [rowsD_append, rowsD_cons, rowsD_nil, rowsD_set, rowsD_take, rowsD_drop, rowsD_replicate])); done) | (simp only [rowsD_append, rowsD_cons, rowsD_nil, rowsD_set, rowsD_take, rowsD_drop, rowsD_replicate]; done) | (simp only [rowsD_append, rowsD_cons, rowsD_nil, rowsD_set, rowsD_take, rowsD_drop, rowsD_replicate]; rfl)
              · replace h := ifn h (by first | (simpa using hb) | (simp at hb ⊢; grind))
                obtain rfl := Option.some.inj h
                simp (maxSteps := 2000000) only [go_sem, ↓reduceIte, reduceCtorEq, Nat.reduceLT, Nat.reduceLeDiff, Nat.reduceEqDiff, Nat.reduceMul, Nat.reduceAdd, Nat.reduceSub, Int.reduceLE, Int.reduceLT] <;> first | rfl | ((repeat (first | refine And.intro (by first | assumption | (show chk _ _ _ = true; kernel_rfl) | omega | (simp; done)) ?_ | rfl | simp only [rowsD_append, rowsD_cons, rowsD_nil, rowsD_set, rowsD_take, rowsD_drop, rowsD_replicate])); done) | (simp only [rowsD_append, rowsD_cons, rowsD_nil, rowsD_set, rowsD_take, rowsD_drop, rowsD_replicate]; done) | (simp only [rowsD_append, rowsD_cons, rowsD_nil, rowsD_set, rowsD_take, rowsD_drop, rowsD_replicate]; rfl)
      · replace h := ifn h (by first | (simpa using hb) | (simp at hb ⊢; grind))
        try simp (maxSteps := 2000000) only [go_sem, ↓reduceIte, reduceCtorEq, Nat.reduceLT, Nat.reduceLeDiff, Nat.reduceEqDiff, Nat.reduceMul, Nat.reduceAdd, Nat.reduceSub, Int.reduceLE, Int.reduceLT]
        repeat refine And.intro (by first | assumption | (show chk _ _ _ = true; kernel_rfl) | omega | (simp; done)) ?_
        refine kIf_of (fun hb => ?_) (fun hb => ?_)
        · replace h := ifp h (by first | (simpa using hb) | (simp at hb ⊢; grind))
          obtain rfl := Option.some.inj h
          simp (maxSteps := 2000000) only [go_sem, ↓reduceIte, reduceCtorEq, Nat.reduceLT, Nat.reduceLeDiff, Nat.reduceEqDiff, Nat.reduceMul, Nat.reduceAdd, Nat.reduceSub, Int.reduceLE, Int.reduceLT] <;> first | rfl | ((repeat (first | refine And.intro (by first | assumption | (show chk _ _ _ = true; kernel_rfl) | omega | (simp; done)) ?_ | rfl | simp only [rowsD_append, rowsD_cons, rowsD_nil, rowsD_set, rowsD_take, rowsD_drop, rowsD_replicate])); done) | (simp only [rowsD_append, rowsD_cons, rowsD_nil, rowsD_set, rowsD_take, rowsD_drop, rowsD_replicate]; done) | (simp only [rowsD_append, rowsD_cons, rowsD_nil, rowsD_set, rowsD_take, rowsD_drop, rowsD_replicate]; rfl)
        · replace h := ifn h (by first | (simpa using hb) | (simp at hb ⊢; grind))
          try simp (maxSteps := 2000000) only [go_sem, ↓reduceIte, reduceCtorEq, Nat.reduceLT, Nat.reduceLeDiff, Nat.reduceEqDiff, Nat.reduceMul, Nat.reduceAdd, Nat.reduceSub, Int.reduceLE, Int.reduceLT]
          repeat refine And.intro (by first | assumption | (show chk _ _ _ = true; kernel_rfl) | omega | (simp; done)) ?_
          refine kIf_of (fun hb => ?_) (fun hb => ?_)
          · replace h := ifp h (by first | (simpa using hb) | (simp at hb ⊢; grind))
            try simp (maxSteps := 2000000) only [go_sem, ↓reduceIte, reduceCtorEq, Nat.reduceLT, Nat.reduceLeDiff, Nat.reduceEqDiff, Nat.reduceMul, Nat.reduceAdd, Nat.reduceSub, Int.reduceLE, Int.reduceLT]
            repeat refine And.intro (by first | assumption | (show chk _ _ _ = true; kernel_rfl) | omega | (simp; done)) ?_
            refine kIf_of (fun hb => ?_) (fun hb => ?_)
            · replace h := ifp h (by first | (simpa using hb) | (simp at hb ⊢; grind))
              obtain rfl := Option.some.inj h
              simp (maxSteps := 2000000) only [go_sem, ↓reduceIte, reduceCtorEq, Nat.reduceLT, Nat.reduceLeDiff, Nat.reduceEqDiff, Nat.reduceMul, Nat.reduceAdd, Nat.reduceSub, Int.reduceLE, Int.reduceLT] <;> first | rfl | ((repeat (first | refine And.intro (by first | assumption | (show chk _ _ _ = true; kernel_rfl) | omega | (simp; done)) ?_ | rfl | simp only [rowsD_append, rowsD_cons, rowsD_nil, rowsD_set, rowsD_take, rowsD_drop, rowsD_replicate])); done) | (simp only [rowsD_append, rowsD_cons, rowsD_nil, rowsD_set, rowsD_take, rowsD_drop, rowsD_replicate]; done) | (simp only [rowsD_append, rowsD_cons, rowsD_nil, rowsD_set, rowsD_take, rowsD_drop, rowsD_replicate]; rfl)
            · replace h := ifn h (by first | (simpa using hb) | (simp at hb ⊢; grind))
              obtain rfl := Option.some.inj h
              simp (maxSteps := 2000000) only [go_sem, ↓reduceIte, reduceCtorEq, Nat.reduceLT, Nat.reduceLeDiff, Nat.reduceEqDiff, Nat.reduceMul, Nat.reduceAdd, Nat.reduceSub, Int.reduceLE, Int.reduceLT] <;> first | rfl | ((repeat (first | refine And.intro (by first | assumption | (show chk _ _ _ = true; kernel_rfl) | omega | (simp; done)) ?_ | rfl | simp only [rowsD_append, rowsD_cons, rowsD_nil, rowsD_set, rowsD_take, rowsD_drop, rowsD_replicate])); done) | (simp only [rowsD_append, rowsD_cons, rowsD_nil, rowsD_set, rowsD_take, rowsD_drop, rowsD_replicate]; done) | (simp only [rowsD_append, rowsD_cons, rowsD_nil, rowsD_set, rowsD_take, rowsD_drop, rowsD_replicate]; rfl)
          · replace h := ifn h (by first | (simpa using hb) | (simp at hb ⊢; grind))
            try simp (maxSteps := 2000000) only [go_sem, ↓reduceIte, reduceCtorEq, Nat.reduceLT, Nat.reduceLeDiff, Nat.reduceEqDiff, Nat.reduceMul, Nat.reduceAdd, Nat.reduceSub, Int.reduceLE, Int.reduceLT]
            repeat refine And.intro (by first | assumption | (show chk _ _ _ = true; kernel_rfl) | omega | (simp; done)) ?_
            refine kIf_of (fun hb => ?_) (fun hb => ?_)
            · replace h := ifp h (by first | (simpa using hb) | (simp at hb ⊢; grind))
              try simp (maxSteps := 2000000) only [go_sem, ↓reduceIte, reduceCtorEq, Nat.reduceLT, Nat.reduceLeDiff, Nat.reduceEqDiff, Nat.reduceMul, Nat.reduceAdd, Nat.reduceSub, Int.reduceLE, Int.reduceLT]
              repeat refine And.intro (by first | assumption | (show chk _ _ _ = true; kernel_rfl) | omega | (simp; done)) ?_
              refine kIf_of (fun hb => ?_) (fun hb => ?_)
              · replace h := ifp h (by first | (simpa using hb) | (simp at hb ⊢; grind))
                try simp (maxSteps := 2000000) only [go_sem, ↓reduceIte, reduceCtorEq, Nat.reduceLT, Nat.reduceLeDiff, Nat.reduceEqDiff, Nat.reduceMul, Nat.reduceAdd, Nat.reduceSub, Int.reduceLE, Int.reduceLT]
                repeat refine And.intro (by first | assumption | (show chk _ _ _ = true; kernel_rfl) | omega | (simp; done)) ?_
                refine kIf_of (fun hb => ?_) (fun hb => ?_)
                · replace h := ifp h (by first | (simpa using hb) | (simp at hb ⊢; grind))
                  obtain rfl := Option.some.inj h
                  simp (maxSteps := 2000000) only [go_sem, ↓reduceIte, reduceCtorEq, Nat.reduceLT, Nat.reduceLeDiff, Nat.reduceEqDiff, Nat.reduceMul, Nat.reduceAdd, Nat.reduceSub, Int.reduceLE, Int.reduceLT] <;> first | rfl | ((repeat (first | refine And.intro (by first | assumption | (show chk _ _ _ = true; kernel_rfl) | omega | (simp; done)) ?_ | rfl | simp only [rowsD_append, rowsD_cons, rowsD_nil, rowsD_set, rowsD_take, rowsD_drop, rowsD_replicate])); done) | (simp only [rowsD_append, rowsD_cons, rowsD_nil, rowsD_set, rowsD_take, rowsD_drop, rowsD_replicate]; done) | (simp only [rowsD_append, rowsD_cons, rowsD_nil, rowsD_set, rowsD_take, rowsD_drop, rowsD_replicate]; rfl)
                · replace h := ifn h (by first | (simpa using hb) | (simp at hb ⊢; grind))
                  obtain rfl := Option.some.inj h
                  simp (maxSteps := 2000000) only [go_sem, ↓reduceIte, reduceCtorEq, Nat.reduceLT, Nat.reduceLeDiff, Nat.reduceEqDiff, Nat.reduceMul, Nat.reduceAdd, Nat.reduceSub, Int.reduceLE, Int.reduceLT] <;> first | rfl | ((repeat (first | refine And.intro (by first | assumption | (show chk _ _ _ = true; kernel_rfl) | omega | (simp; done)) ?_ | rfl | simp only [rowsD_append, rowsD_cons, rowsD_nil, rowsD_set, rowsD_take, rowsD_drop, rowsD_replicate])); done) | (simp only [rowsD_append, rowsD_cons, rowsD_nil, rowsD_set, rowsD_take, rowsD_drop, rowsD_replicate]; done) | (simp only [rowsD_append, rowsD_cons, rowsD_nil, rowsD_set, rowsD_take, rowsD_drop, rowsD_replicate]; rfl)
              · replace h := ifn h (by first | (simpa using hb) | (simp at hb ⊢; grind))
                obtain rfl := Option.some.inj h
                simp (maxSteps := 2000000) only [go_sem, ↓reduceIte, reduceCtorEq, Nat.reduceLT, Nat.reduceLeDiff, Nat.reduceEqDiff, Nat.reduceMul, Nat.reduceAdd, Nat.reduceSub, Int.reduceLE, Int.reduceLT] <;> first | rfl | ((repeat (first | refine And.intro (by first | assumption | (show chk _ _ _ = true; kernel_rfl) | omega | (simp; done)) ?_ | rfl | simp only [rowsD_append, rowsD_cons, rowsD_nil, rowsD_set, rowsD_take, rowsD_drop, rowsD_replicate])); done) | (simp only [rowsD_append, rowsD_cons, rowsD_nil, rowsD_set, rowsD_take, rowsD_drop, rowsD_replicate]; done) | (simp only [rowsD_append, rowsD_cons, rowsD_nil, rowsD_set, rowsD_take, rowsD_drop, rowsD_replicate]; rfl)
            · replace h := ifn h (by first | (simpa using hb) | (simp at hb ⊢; grind))
              try simp (maxSteps := 2000000) only [go_sem, ↓reduceIte, reduceCtorEq, Nat.reduceLT, Nat.reduceLeDiff, Nat.reduceEqDiff, Nat.reduceMul, Nat.reduceAdd, Nat.reduceSub, Int.reduceLE, Int.reduceLT]
              repeat refine And.intro (by first | assumption | (show chk _ _ _ = true; kernel_rfl) | omega | (simp; done)) ?_
              refine kIf_of (fun hb => ?_) (fun hb => ?_)
              · replace h := ifp h (by first | (simpa using hb) | (simp at hb ⊢; grind))
                try simp (maxSteps := 2000000) only [go_sem, ↓reduceIte, reduceCtorEq, Nat.reduceLT, Nat.reduceLeDiff, Nat.reduceEqDiff, Nat.reduceMul, Nat.reduceAdd, Nat.reduceSub, Int.reduceLE, Int.reduceLT]
                repeat refine And.intro (by first | assumption | (show chk _ _ _ = true; kernel_rfl) | omega | (simp; done)) ?_
                refine kIf_of (fun hb => ?_) (fun hb => ?_)
                · replace h := ifp h (by first | (simpa using hb) | (simp at hb ⊢; grind))
                  obtain rfl := Option.some.inj h
                  simp (maxSteps := 2000000) only [go_sem, ↓reduceIte, reduceCtorEq, Nat.reduceLT, Nat.reduceLeDiff, Nat.reduceEqDiff, Nat.reduceMul, Nat.reduceAdd, Nat.reduceSub, Int.reduceLE, Int.reduceLT] <;> first | rfl | ((repeat (first | refine And.intro (by first | assumption | (show chk _ _ _ = true; kernel_rfl) | omega | (simp; done)) ?_ | rfl | simp only [rowsD_append, rowsD_cons, rowsD_nil, rowsD_set, rowsD_take, rowsD_drop, rowsD_replicate])); done) | (simp only [rowsD_append, rowsD_cons, rowsD_nil, rowsD_set, rowsD_take, rowsD_drop, rowsD_replicate]; done) | (simp only [rowsD_append, rowsD_cons, rowsD_nil, rowsD_set, rowsD_take, rowsD_drop, rowsD_replicate]; rfl)
                · replace h := ifn h (by first | (simpa using hb) | (simp at hb ⊢; grind))
                  obtain rfl := Option.some.inj h
                  simp (maxSteps := 2000000) only [go_sem, ↓reduceIte, reduceCtorEq, Nat.reduceLT, Nat.reduceLeDiff, Nat.reduceEqDiff, Nat.reduceMul, Nat.reduceAdd, Nat.reduceSub, Int.reduceLE, Int.reduceLT] <;> first | rfl | ((repeat (first | refine And.intro (by first | assumption | (show chk _ _ _ = true; kernel_rfl) | omega | (simp; done)) ?_ | rfl | simp only [rowsD_append, rowsD_cons, rowsD_nil, rowsD_set, rowsD_take, rowsD_drop, rowsD_replicate])); done) | (simp only [rowsD_append, rowsD_cons, rowsD_nil, rowsD_set, rowsD_take, rowsD_drop, rowsD_replicate]; done) | (simp only [rowsD_append, rowsD_cons, rowsD_nil, rowsD_set, rowsD_take, rowsD_drop, rowsD_replicate]; rfl)
              · replace h := ifn h (by first | (simpa using hb) | (simp at hb ⊢; grind))
                obtain rfl := Option.some.inj h
                simp (maxSteps := 2000000) only [go_sem, ↓reduceIte, reduceCtorEq, Nat.reduceLT, Nat.reduceLeDiff, Nat.reduceEqDiff, Nat.reduceMul, Nat.reduceAdd, Nat.reduceSub, Int.reduceLE, Int.reduceLT] <;> first | rfl | ((repeat (first | refine And.intro (by first | assumption | (show chk _ _ _ = true; kernel_rfl) | omega | (simp; done)) ?_ | rfl | simp only [rowsD_append, rowsD_cons, rowsD_nil, rowsD_set, rowsD_take, rowsD_drop, rowsD_replicate])); done) | (simp only [rowsD_append, rowsD_cons, rowsD_nil, rowsD_set, rowsD_take, rowsD_drop, rowsD_replicate]; done) | (simp only [rowsD_append, rowsD_cons, rowsD_nil, rowsD_set, rowsD_take, rowsD_drop, rowsD_replicate]; rfl)
end Go.Ax

/- The walk of mark_GainsRight, printed by gen.py. -/
set_option linter.unusedSimpArgs false
set_option linter.unusedVariables false
namespace Go.Ax
open Go Go.Proofs
set_option maxRecDepth 100000
set_option maxHeartbeats 4000000
theorem mark_GainsRight.spec {a0 : List api_Gain} {r : Bool} (h : mark_GainsRight.f a0 = some r) : FSpec Try.prog 17 [(false, [.l (rowsD api_Gain.D a0)])] [.one (.d (.v (.bool r)))] := by
  unfold mark_GainsRight.f at h
  refine fspec_data mixed Try.func17 rfl (by decide) [0, 2, 3, 4, 5, 6, 7] (rs := [.tmp 2]) rfl (by decide) (n := 41) rfl (by simp) ?_
  try simp (maxSteps := 2000000) only [go_sem, ↓reduceIte, reduceCtorEq, Nat.reduceLT, Nat.reduceLeDiff, Nat.reduceEqDiff, Nat.reduceMul, Nat.reduceAdd, Nat.reduceSub, Int.reduceLE, Int.reduceLT]
  repeat refine And.intro (by first | assumption | (show chk _ _ _ = true; kernel_rfl) | omega | (simp; done)) ?_
  obtain ⟨f0, h0, q0⟩ := bd h
  rw [aCode_loop]
  refine aLoop_fx (α := Nat × Int) (fun p => (⟨41, [], [(0, .one (.l (rowsD api_Gain.D a0))), (2, .one (.v (.bool false))), (3, .none), (4, .none), (5, .one (.l (rowsD api_Gain.D a0))), (6, .one (.v (.int .i64 (a0.length : Int)))), (7, .one (.v (.int .i64 p.2)))]⟩ : S)) (fun p => mark_GainsRight.l0 a0 p.1 p.2 = some f0) (fun p => p.1) (FUEL, 0) h0 ?_ ?_
  · (try simp only [go_sem, List.map_set, rowsD_append, rowsD_cons, rowsD_nil, rowsD_set, rowsD_take, rowsD_drop, rowsD_replicate]) <;> (repeat' first | exact FlexV.nil | exact FlexT.refl _ | exact FlexT.none _ | exact FlexT.frz _ _ | exact FlexT.nil _ | exact FlexB.nil | exact FlexL.refl _ | exact FlexL.nil _ | exact FlexL.frz _ _ | refine FlexV.cons ?_ ?_ | refine FlexT.box ?_ | refine FlexB.cons ?_ ?_ | refine Flex.mk ?_)
  rintro ⟨k0, x7_0⟩ h
  simp only at h
  obtain _ | k0 := k0
  · exact absurd h (by simp [mark_GainsRight.l0])
  rw [mark_GainsRight.l0] at h
  try simp (maxSteps := 2000000) only [go_sem, ↓reduceIte, reduceCtorEq, Nat.reduceLT, Nat.reduceLeDiff, Nat.reduceEqDiff, Nat.reduceMul, Nat.reduceAdd, Nat.reduceSub, Int.reduceLE, Int.reduceLT]
  repeat refine And.intro (by first | assumption | (show chk _ _ _ = true; kernel_rfl) | omega | (simp; done)) ?_
  refine kIf_of (fun hb => ?_) (fun hb => ?_)
  · replace h := ifp h (by first | (simpa using hb) | (simp at hb ⊢; grind))
    obtain ⟨⟨hg3_1_0, hg3_1_1⟩, h⟩ := gd h
    try simp (maxSteps := 2000000) only [go_sem, ↓reduceIte, reduceCtorEq, Nat.reduceLT, Nat.reduceLeDiff, Nat.reduceEqDiff, Nat.reduceMul, Nat.reduceAdd, Nat.reduceSub, Int.reduceLE, Int.reduceLT]
    repeat refine And.intro (by first | assumption | (show chk _ _ _ = true; kernel_rfl) | omega | (simp; done)) ?_
    refine kIf_of (fun hb => ?_) (fun hb => ?_)
    · replace h := ifn h (by first | (simpa using hb) | (simp at hb ⊢; grind))
      try simp (maxSteps := 2000000) only [go_sem, ↓reduceIte, reduceCtorEq, Nat.reduceLT, Nat.reduceLeDiff, Nat.reduceEqDiff, Nat.reduceMul, Nat.reduceAdd, Nat.reduceSub, Int.reduceLE, Int.reduceLT]
      repeat refine And.intro (by first | assumption | (show chk _ _ _ = true; kernel_rfl) | omega | (simp; done)) ?_
      refine kIf_of (fun hb => ?_) (fun hb => ?_)
      · replace h := ifn h (by first | (simpa using hb) | (simp at hb ⊢; grind))
        try simp (maxSteps := 2000000) only [go_sem, ↓reduceIte, reduceCtorEq, Nat.reduceLT, Nat.reduceLeDiff, Nat.reduceEqDiff, Nat.reduceMul, Nat.reduceAdd, Nat.reduceSub, Int.reduceLE, Int.reduceLT]
        repeat refine And.intro (by first | assumption | (show chk _ _ _ = true; kernel_rfl) | omega | (simp; done)) ?_
        refine kIf_of (fun hb => ?_) (fun hb => ?_)
        · replace h := ifn h (by first | (simpa using hb) | (simp at hb ⊢; grind))
          try simp (maxSteps := 2000000) only [go_sem, ↓reduceIte, reduceCtorEq, Nat.reduceLT, Nat.reduceLeDiff, Nat.reduceEqDiff, Nat.reduceMul, Nat.reduceAdd, Nat.reduceSub, Int.reduceLE, Int.reduceLT]
          repeat refine And.intro (by first | assumption | (show chk _ _ _ = true; kernel_rfl) | omega | (simp; done)) ?_
          refine kIf_of (fun hb => ?_) (fun hb => ?_)
          · replace h := ifp h (by first | (simpa using hb) | (simp at hb ⊢; grind))
            obtain ⟨⟨hg4_20_0, hg4_20_1⟩, h⟩ := gd h
            try simp (maxSteps := 2000000) only [go_sem, ↓reduceIte, reduceCtorEq, Nat.reduceLT, Nat.reduceLeDiff, Nat.reduceEqDiff, Nat.reduceMul, Nat.reduceAdd, Nat.reduceSub, Int.reduceLE, Int.reduceLT]
            repeat refine And.intro (by first | assumption | (show chk _ _ _ = true; kernel_rfl) | omega | (simp; done)) ?_
            refine kIf_of (fun hb => ?_) (fun hb => ?_)
            · replace h := ifp h (by first | (simpa using hb) | (simp at hb ⊢; grind))
              obtain rfl := Option.some.inj h
              have h := q0
              simp only [Flow.go_ret, Flow.goL_ret] at h
              obtain rfl := Option.some.inj h
              simp (maxSteps := 2000000) only [go_sem, ↓reduceIte, reduceCtorEq, Nat.reduceLT, Nat.reduceLeDiff, Nat.reduceEqDiff, Nat.reduceMul, Nat.reduceAdd, Nat.reduceSub, Int.reduceLE, Int.reduceLT] <;> first | rfl | ((repeat (first | refine And.intro (by first | assumption | (show chk _ _ _ = true; kernel_rfl) | omega | (simp; done)) ?_ | rfl | simp only [rowsD_append, rowsD_cons, rowsD_nil, rowsD_set, rowsD_take, rowsD_drop, rowsD_replicate])); done) | (simp only [rowsD_append, rowsD_cons, rowsD_nil, rowsD_set, rowsD_take, rowsD_drop, rowsD_replicate]; done) | (simp only [rowsD_append, rowsD_cons, rowsD_nil, rowsD_set, rowsD_take, rowsD_drop, rowsD_replicate]; rfl)
            · replace h := ifn h (by first | (simpa using hb) | (simp at hb ⊢; grind))
              try simp (maxSteps := 2000000) only [go_sem, ↓reduceIte, reduceCtorEq, Nat.reduceLT, Nat.reduceLeDiff, Nat.reduceEqDiff, Nat.reduceMul, Nat.reduceAdd, Nat.reduceSub, Int.reduceLE, Int.reduceLT]
              repeat refine And.intro (by first | assumption | (show chk _ _ _ = true; kernel_rfl) | omega | (simp; done)) ?_
              refine Round.fx (k0, IntKind.i64.wrap (x7_0 + 1)) h (Nat.lt_succ_self k0) ?_
              (try simp only [go_sem, List.map_set, rowsD_append, rowsD_cons, rowsD_nil, rowsD_set, rowsD_take, rowsD_drop, rowsD_replicate]) <;> (repeat' first | exact FlexV.nil | exact FlexT.refl _ | exact FlexT.none _ | exact FlexT.frz _ _ | exact FlexT.nil _ | exact FlexB.nil | exact FlexL.refl _ | exact FlexL.nil _ | exact FlexL.frz _ _ | refine FlexV.cons ?_ ?_ | refine FlexT.box ?_ | refine FlexB.cons ?_ ?_ | refine Flex.mk ?_)
          · replace h := ifn h (by first | (simpa using hb) | (simp at hb ⊢; grind))
            try simp (maxSteps := 2000000) only [go_sem, ↓reduceIte, reduceCtorEq, Nat.reduceLT, Nat.reduceLeDiff, Nat.reduceEqDiff, Nat.reduceMul, Nat.reduceAdd, Nat.reduceSub, Int.reduceLE, Int.reduceLT]
            repeat refine And.intro (by first | assumption | (show chk _ _ _ = true; kernel_rfl) | omega | (simp; done)) ?_
            refine Round.fx (k0, IntKind.i64.wrap (x7_0 + 1)) h (Nat.lt_succ_self k0) ?_
            (try simp only [go_sem, List.map_set, rowsD_append, rowsD_cons, rowsD_nil, rowsD_set, rowsD_take, rowsD_drop, rowsD_replicate]) <;> (repeat' first | exact FlexV.nil | exact FlexT.refl _ | exact FlexT.none _ | exact FlexT.frz _ _ | exact FlexT.nil _ | exact FlexB.nil | exact FlexL.refl _ | exact FlexL.nil _ | exact FlexL.frz _ _ | refine FlexV.cons ?_ ?_ | refine FlexT.box ?_ | refine FlexB.cons ?_ ?_ | refine Flex.mk ?_)
        · replace h := ifp h (by first | (simpa using hb) | (simp at hb ⊢; grind))
          obtain rfl := Option.some.inj h
          have h := q0
          simp only [Flow.go_ret, Flow.goL_ret] at h
          obtain rfl := Option.some.inj h
          simp (maxSteps := 2000000) only [go_sem, ↓reduceIte, reduceCtorEq, Nat.reduceLT, Nat.reduceLeDiff, Nat.reduceEqDiff, Nat.reduceMul, Nat.reduceAdd, Nat.reduceSub, Int.reduceLE, Int.reduceLT] <;> first | rfl | ((repeat (first | refine And.intro (by first | assumption | (show chk _ _ _ = true; kernel_rfl) | omega | (simp; done)) ?_ | rfl | simp only [rowsD_append, rowsD_cons, rowsD_nil, rowsD_set, rowsD_take, rowsD_drop, rowsD_replicate])); done) | (simp only [rowsD_append, rowsD_cons, rowsD_nil, rowsD_set, rowsD_take, rowsD_drop, rowsD_replicate]; done) | (simp only [rowsD_append, rowsD_cons, rowsD_nil, rowsD_set, rowsD_take, rowsD_drop, rowsD_replicate]; rfl)
      · replace h := ifp h (by first | (simpa using hb) | (simp at hb ⊢; grind))
        obtain rfl := Option.some.inj h
        have h := q0
        simp only [Flow.go_ret, Flow.goL_ret] at h
        obtain rfl := Option.some.inj h
        simp (maxSteps := 2000000) only [go_sem, ↓reduceIte, reduceCtorEq, Nat.reduceLT, Nat.reduceLeDiff, Nat.reduceEqDiff, Nat.reduceMul, Nat.reduceAdd, Nat.reduceSub, Int.reduceLE, Int.reduceLT] <;> first | rfl | ((repeat (first | refine And.intro (by first | assumption | (show chk _ _ _ = true; kernel_rfl) | omega | (simp; done)) ?_ | rfl | simp only [rowsD_append, rowsD_cons, rowsD_nil, rowsD_set, rowsD_take, rowsD_drop, rowsD_replicate])); done) | (simp only [rowsD_append, rowsD_cons, rowsD_nil, rowsD_set, rowsD_take, rowsD_drop, rowsD_replicate]; done) | (simp only [rowsD_append, rowsD_cons, rowsD_nil, rowsD_set, rowsD_take, rowsD_drop, rowsD_replicate]; rfl)
    · replace h := ifp h (by first | (simpa using hb) | (simp at hb ⊢; grind))
      obtain rfl := Option.some.inj h
      have h := q0
      simp only [Flow.go_ret, Flow.goL_ret] at h
      obtain rfl := Option.some.inj h
      simp (maxSteps := 2000000) only [go_sem, ↓reduceIte, reduceCtorEq, Nat.reduceLT, Nat.reduceLeDiff, Nat.reduceEqDiff, Nat.reduceMul, Nat.reduceAdd, Nat.reduceSub, Int.reduceLE, Int.reduceLT] <;> first | rfl | ((repeat (first | refine And.intro (by first | assumption | (show chk _ _ _ = true; kernel_rfl) | omega | (simp; done)) ?_ | rfl | simp only [rowsD_append, rowsD_cons, rowsD_nil, rowsD_set, rowsD_take, rowsD_drop, rowsD_replicate])); done) | (simp only [rowsD_append, rowsD_cons, rowsD_nil, rowsD_set, rowsD_take, rowsD_drop, rowsD_replicate]; done) | (simp only [rowsD_append, rowsD_cons, rowsD_nil, rowsD_set, rowsD_take, rowsD_drop, rowsD_replicate]; rfl)
  · replace h := ifn h (by first | (simpa using hb) | (simp at hb ⊢; grind))
    obtain rfl := Option.some.inj h
    have h := q0
    simp only [Flow.go_out, Flow.goL_out] at h
    try dsimp only at h
    obtain rfl := Option.some.inj h
    simp (maxSteps := 2000000) only [go_sem, ↓reduceIte, reduceCtorEq, Nat.reduceLT, Nat.reduceLeDiff, Nat.reduceEqDiff, Nat.reduceMul, Nat.reduceAdd, Nat.reduceSub, Int.reduceLE, Int.reduceLT] <;> first | rfl | ((repeat (first | refine And.intro (by first | assumption | (show chk _ _ _ = true; kernel_rfl) | omega | (simp; done)) ?_ | rfl | simp only [rowsD_append, rowsD_cons, rowsD_nil, rowsD_set, rowsD_take, rowsD_drop, rowsD_replicate])); done) | (simp only [rowsD_append, rowsD_cons, rowsD_nil, rowsD_set, rowsD_take, rowsD_drop, rowsD_replicate]; done) | (simp only [rowsD_append, rowsD_cons, rowsD_nil, rowsD_set, rowsD_take, rowsD_drop, rowsD_replicate]; rfl)
end Go.Ax
