/- Ways through a law's own function, printed by paths.py. -/
import Derived.Test.YtmpbhgofllbejaaGa
import Derived.Test.YtmpbhgofllbejaaGs
set_option linter.unusedVariables false
set_option linter.unusedSimpArgs false
set_option linter.unusedSimpArgs false
set_option linter.unusedVariables false
namespace Go.Ax
open Go Go.Proofs
set_option maxRecDepth 100000
set_option maxHeartbeats 40000000
theorem needAll_told {a0 : api_Config} {a1 : List api_Leg} {a2 : List api_Open} {a3 : Int} {a4 : Int} {a5 : Int}
  {y1_0 : Bool}
  (hy1_0 : FSpec Try.prog 30 [] [.one (.d (.v (.bool y1_0)))])
  (hc0 : ¬(¬(y1_0 = true)))
  (hc1 : ¬((a0.Insts.length : Int) > 12))
  (hc2 : ¬((a1.length : Int) > 12))
  (hc3 : ¬((a2.length : Int) > 12))
  {y5_6 : Bool}
  (hy5_6 : FSpec Try.prog 31 [(true, api_Config.D a0), (false, [.l (rowsD api_Leg.D a1)]), (false, [.l (rowsD api_Open.D a2)]), (false, [.v (.int .i64 a3)]), (false, [.v (.int .i64 a4)]), (true, wD a5)] [.one (.d (.v (.bool y5_6)))])
  : FSpec Try.prog 6 [(true, api_Config.D a0), (false, [.l (rowsD api_Leg.D a1)]), (false, [.l (rowsD api_Open.D a2)]), (false, [.v (.int .i64 a3)]), (false, [.v (.int .i64 a4)]), (true, wD a5)] [.one (.d (.v (.bool y5_6)))] := by
  refine fspec_data mixed Try.func6 rfl (by decide) [0, 1, 2, 3, 4, 5, 6, 11, 12] (rs := [.tmp 12]) rfl (by decide) (n := 36) rfl (by simp) ?_
  as_aux_lemma =>
    try simp (maxSteps := 2000000) only [go_sem, ↓reduceIte, reduceCtorEq, Nat.reduceLT, Nat.reduceLeDiff, Nat.reduceEqDiff, Nat.reduceMul, Nat.reduceAdd, Nat.reduceSub, Int.reduceLE, Int.reduceLT]
    repeat refine And.intro (by first | assumption | (show chk _ _ _ = true; kernel_rfl) | omega | (simp; done)) ?_
    refine aCall_of hy1_0 ?_
    as_aux_lemma =>
      try simp (maxSteps := 2000000) only [go_sem, ↓reduceIte, reduceCtorEq, Nat.reduceLT, Nat.reduceLeDiff, Nat.reduceEqDiff, Nat.reduceMul, Nat.reduceAdd, Nat.reduceSub, Int.reduceLE, Int.reduceLT]
      repeat refine And.intro (by first | assumption | (show chk _ _ _ = true; kernel_rfl) | omega | (simp; done)) ?_
      refine kIf_of (fun hb => absurd (by simpa using hb) hc0) (fun hb => ?_)
      as_aux_lemma =>
        try simp (maxSteps := 2000000) only [go_sem, ↓reduceIte, reduceCtorEq, Nat.reduceLT, Nat.reduceLeDiff, Nat.reduceEqDiff, Nat.reduceMul, Nat.reduceAdd, Nat.reduceSub, Int.reduceLE, Int.reduceLT]
        repeat refine And.intro (by first | assumption | (show chk _ _ _ = true; kernel_rfl) | omega | (simp; done)) ?_
        refine kIf_of (fun hb => ?_) (fun hb => absurd (by simpa using hb) hc1)
        as_aux_lemma =>
          try simp (maxSteps := 2000000) only [go_sem, ↓reduceIte, reduceCtorEq, Nat.reduceLT, Nat.reduceLeDiff, Nat.reduceEqDiff, Nat.reduceMul, Nat.reduceAdd, Nat.reduceSub, Int.reduceLE, Int.reduceLT]
          repeat refine And.intro (by first | assumption | (show chk _ _ _ = true; kernel_rfl) | omega | (simp; done)) ?_
          refine kIf_of (fun hb => ?_) (fun hb => absurd (by simpa using hb) hc2)
          as_aux_lemma =>
            try simp (maxSteps := 2000000) only [go_sem, ↓reduceIte, reduceCtorEq, Nat.reduceLT, Nat.reduceLeDiff, Nat.reduceEqDiff, Nat.reduceMul, Nat.reduceAdd, Nat.reduceSub, Int.reduceLE, Int.reduceLT]
            repeat refine And.intro (by first | assumption | (show chk _ _ _ = true; kernel_rfl) | omega | (simp; done)) ?_
            refine kIf_of (fun hb => absurd (by simpa using hb) hc3) (fun hb => ?_)
            as_aux_lemma =>
              try simp (maxSteps := 2000000) only [go_sem, ↓reduceIte, reduceCtorEq, Nat.reduceLT, Nat.reduceLeDiff, Nat.reduceEqDiff, Nat.reduceMul, Nat.reduceAdd, Nat.reduceSub, Int.reduceLE, Int.reduceLT]
              repeat refine And.intro (by first | assumption | (show chk _ _ _ = true; kernel_rfl) | omega | (simp; done)) ?_
              refine aCall_of hy5_6 ?_
              as_aux_lemma =>
                simp (maxSteps := 2000000) only [go_sem, ↓reduceIte, reduceCtorEq, Nat.reduceLT, Nat.reduceLeDiff, Nat.reduceEqDiff, Nat.reduceMul, Nat.reduceAdd, Nat.reduceSub, Int.reduceLE, Int.reduceLT] <;> first | rfl | (repeat (first | refine And.intro (by first | assumption | (show chk _ _ _ = true; kernel_rfl) | omega | (simp; done)) ?_ | rfl | simp only [rowsD_append, rowsD_cons, rowsD_nil, rowsD_set, rowsD_take, rowsD_drop, rowsD_replicate]); done) | (simp only [rowsD_append, rowsD_cons, rowsD_nil, rowsD_set, rowsD_take, rowsD_drop, rowsD_replicate]; done) | (simp only [rowsD_append, rowsD_cons, rowsD_nil, rowsD_set, rowsD_take, rowsD_drop, rowsD_replicate]; rfl)

end Go.Ax

/- Ways through a law's own function, printed by paths.py. -/
set_option linter.unusedSimpArgs false
set_option linter.unusedVariables false
namespace Go.Ax
open Go Go.Proofs
set_option maxRecDepth 100000
set_option maxHeartbeats 40000000
theorem needAll_i {a0 : api_Config} {a1 : List api_Leg} {a2 : List api_Open} {a3 : Int} {a4 : Int} {a5 : Int}
  {y1_0 : Bool}
  (hy1_0 : FSpec Try.prog 30 [] [.one (.d (.v (.bool y1_0)))])
  (hc0 : ¬(¬(y1_0 = true)))
  (hc1 : (a0.Insts.length : Int) > 12)
  : FSpec Try.prog 6 [(true, api_Config.D a0), (false, [.l (rowsD api_Leg.D a1)]), (false, [.l (rowsD api_Open.D a2)]), (false, [.v (.int .i64 a3)]), (false, [.v (.int .i64 a4)]), (true, wD a5)] [.one (.d (.v (.bool true)))] := by
  refine fspec_data mixed Try.func6 rfl (by decide) [0, 1, 2, 3, 4, 5, 6, 11, 12] (rs := [.tmp 12]) rfl (by decide) (n := 36) rfl (by simp) ?_
  as_aux_lemma =>
    try simp (maxSteps := 2000000) only [go_sem, ↓reduceIte, reduceCtorEq, Nat.reduceLT, Nat.reduceLeDiff, Nat.reduceEqDiff, Nat.reduceMul, Nat.reduceAdd, Nat.reduceSub, Int.reduceLE, Int.reduceLT]
    repeat refine And.intro (by first | assumption | (show chk _ _ _ = true; kernel_rfl) | omega | (simp; done)) ?_
    refine aCall_of hy1_0 ?_
    as_aux_lemma =>
      try simp (maxSteps := 2000000) only [go_sem, ↓reduceIte, reduceCtorEq, Nat.reduceLT, Nat.reduceLeDiff, Nat.reduceEqDiff, Nat.reduceMul, Nat.reduceAdd, Nat.reduceSub, Int.reduceLE, Int.reduceLT]
      repeat refine And.intro (by first | assumption | (show chk _ _ _ = true; kernel_rfl) | omega | (simp; done)) ?_
      refine kIf_of (fun hb => absurd (by simpa using hb) hc0) (fun hb => ?_)
      as_aux_lemma =>
        try simp (maxSteps := 2000000) only [go_sem, ↓reduceIte, reduceCtorEq, Nat.reduceLT, Nat.reduceLeDiff, Nat.reduceEqDiff, Nat.reduceMul, Nat.reduceAdd, Nat.reduceSub, Int.reduceLE, Int.reduceLT]
        repeat refine And.intro (by first | assumption | (show chk _ _ _ = true; kernel_rfl) | omega | (simp; done)) ?_
        refine kIf_of (fun hb => absurd hc1 (by simpa using hb)) (fun hb => ?_)
        as_aux_lemma =>
          simp (maxSteps := 2000000) only [go_sem, ↓reduceIte, reduceCtorEq, Nat.reduceLT, Nat.reduceLeDiff, Nat.reduceEqDiff, Nat.reduceMul, Nat.reduceAdd, Nat.reduceSub, Int.reduceLE, Int.reduceLT] <;> first | rfl | (repeat (first | refine And.intro (by first | assumption | (show chk _ _ _ = true; kernel_rfl) | omega | (simp; done)) ?_ | rfl | simp only [rowsD_append, rowsD_cons, rowsD_nil, rowsD_set, rowsD_take, rowsD_drop, rowsD_replicate]); done) | (simp only [rowsD_append, rowsD_cons, rowsD_nil, rowsD_set, rowsD_take, rowsD_drop, rowsD_replicate]; done) | (simp only [rowsD_append, rowsD_cons, rowsD_nil, rowsD_set, rowsD_take, rowsD_drop, rowsD_replicate]; rfl)

end Go.Ax

/- Ways through a law's own function, printed by paths.py. -/
set_option linter.unusedSimpArgs false
set_option linter.unusedVariables false
namespace Go.Ax
open Go Go.Proofs
set_option maxRecDepth 100000
set_option maxHeartbeats 40000000
theorem needAll_l {a0 : api_Config} {a1 : List api_Leg} {a2 : List api_Open} {a3 : Int} {a4 : Int} {a5 : Int}
  {y1_0 : Bool}
  (hy1_0 : FSpec Try.prog 30 [] [.one (.d (.v (.bool y1_0)))])
  (hc0 : ¬(¬(y1_0 = true)))
  (hc1 : ¬((a0.Insts.length : Int) > 12))
  (hc2 : (a1.length : Int) > 12)
  : FSpec Try.prog 6 [(true, api_Config.D a0), (false, [.l (rowsD api_Leg.D a1)]), (false, [.l (rowsD api_Open.D a2)]), (false, [.v (.int .i64 a3)]), (false, [.v (.int .i64 a4)]), (true, wD a5)] [.one (.d (.v (.bool true)))] := by
  refine fspec_data mixed Try.func6 rfl (by decide) [0, 1, 2, 3, 4, 5, 6, 11, 12] (rs := [.tmp 12]) rfl (by decide) (n := 36) rfl (by simp) ?_
  as_aux_lemma =>
    try simp (maxSteps := 2000000) only [go_sem, ↓reduceIte, reduceCtorEq, Nat.reduceLT, Nat.reduceLeDiff, Nat.reduceEqDiff, Nat.reduceMul, Nat.reduceAdd, Nat.reduceSub, Int.reduceLE, Int.reduceLT]
    repeat refine And.intro (by first | assumption | (show chk _ _ _ = true; kernel_rfl) | omega | (simp; done)) ?_
    refine aCall_of hy1_0 ?_
    as_aux_lemma =>
      try simp (maxSteps := 2000000) only [go_sem, ↓reduceIte, reduceCtorEq, Nat.reduceLT, Nat.reduceLeDiff, Nat.reduceEqDiff, Nat.reduceMul, Nat.reduceAdd, Nat.reduceSub, Int.reduceLE, Int.reduceLT]
      repeat refine And.intro (by first | assumption | (show chk _ _ _ = true; kernel_rfl) | omega | (simp; done)) ?_
      refine kIf_of (fun hb => absurd (by simpa using hb) hc0) (fun hb => ?_)
      as_aux_lemma =>
        try simp (maxSteps := 2000000) only [go_sem, ↓reduceIte, reduceCtorEq, Nat.reduceLT, Nat.reduceLeDiff, Nat.reduceEqDiff, Nat.reduceMul, Nat.reduceAdd, Nat.reduceSub, Int.reduceLE, Int.reduceLT]
        repeat refine And.intro (by first | assumption | (show chk _ _ _ = true; kernel_rfl) | omega | (simp; done)) ?_
        refine kIf_of (fun hb => ?_) (fun hb => absurd (by simpa using hb) hc1)
        as_aux_lemma =>
          try simp (maxSteps := 2000000) only [go_sem, ↓reduceIte, reduceCtorEq, Nat.reduceLT, Nat.reduceLeDiff, Nat.reduceEqDiff, Nat.reduceMul, Nat.reduceAdd, Nat.reduceSub, Int.reduceLE, Int.reduceLT]
          repeat refine And.intro (by first | assumption | (show chk _ _ _ = true; kernel_rfl) | omega | (simp; done)) ?_
          refine kIf_of (fun hb => absurd hc2 (by simpa using hb)) (fun hb => ?_)
          as_aux_lemma =>
            simp (maxSteps := 2000000) only [go_sem, ↓reduceIte, reduceCtorEq, Nat.reduceLT, Nat.reduceLeDiff, Nat.reduceEqDiff, Nat.reduceMul, Nat.reduceAdd, Nat.reduceSub, Int.reduceLE, Int.reduceLT] <;> first | rfl | (repeat (first | refine And.intro (by first | assumption | (show chk _ _ _ = true; kernel_rfl) | omega | (simp; done)) ?_ | rfl | simp only [rowsD_append, rowsD_cons, rowsD_nil, rowsD_set, rowsD_take, rowsD_drop, rowsD_replicate]); done) | (simp only [rowsD_append, rowsD_cons, rowsD_nil, rowsD_set, rowsD_take, rowsD_drop, rowsD_replicate]; done) | (simp only [rowsD_append, rowsD_cons, rowsD_nil, rowsD_set, rowsD_take, rowsD_drop, rowsD_replicate]; rfl)

end Go.Ax

/- Ways through a law's own function, printed by paths.py. -/
set_option linter.unusedSimpArgs false
set_option linter.unusedVariables false
namespace Go.Ax
open Go Go.Proofs
set_option maxRecDepth 100000
set_option maxHeartbeats 40000000
theorem needAll_o {a0 : api_Config} {a1 : List api_Leg} {a2 : List api_Open} {a3 : Int} {a4 : Int} {a5 : Int}
  {y1_0 : Bool}
  (hy1_0 : FSpec Try.prog 30 [] [.one (.d (.v (.bool y1_0)))])
  (hc0 : ¬(¬(y1_0 = true)))
  (hc1 : ¬((a0.Insts.length : Int) > 12))
  (hc2 : ¬((a1.length : Int) > 12))
  (hc3 : (a2.length : Int) > 12)
  : FSpec Try.prog 6 [(true, api_Config.D a0), (false, [.l (rowsD api_Leg.D a1)]), (false, [.l (rowsD api_Open.D a2)]), (false, [.v (.int .i64 a3)]), (false, [.v (.int .i64 a4)]), (true, wD a5)] [.one (.d (.v (.bool true)))] := by
  refine fspec_data mixed Try.func6 rfl (by decide) [0, 1, 2, 3, 4, 5, 6, 11, 12] (rs := [.tmp 12]) rfl (by decide) (n := 36) rfl (by simp) ?_
  as_aux_lemma =>
    try simp (maxSteps := 2000000) only [go_sem, ↓reduceIte, reduceCtorEq, Nat.reduceLT, Nat.reduceLeDiff, Nat.reduceEqDiff, Nat.reduceMul, Nat.reduceAdd, Nat.reduceSub, Int.reduceLE, Int.reduceLT]
    repeat refine And.intro (by first | assumption | (show chk _ _ _ = true; kernel_rfl) | omega | (simp; done)) ?_
    refine aCall_of hy1_0 ?_
    as_aux_lemma =>
      try simp (maxSteps := 2000000) only [go_sem, ↓reduceIte, reduceCtorEq, Nat.reduceLT, Nat.reduceLeDiff, Nat.reduceEqDiff, Nat.reduceMul, Nat.reduceAdd, Nat.reduceSub, Int.reduceLE, Int.reduceLT]
      repeat refine And.intro (by first | assumption | (show chk _ _ _ = true; kernel_rfl) | omega | (simp; done)) ?_
      refine kIf_of (fun hb => absurd (by simpa using hb) hc0) (fun hb => ?_)
      as_aux_lemma =>
        try simp (maxSteps := 2000000) only [go_sem, ↓reduceIte, reduceCtorEq, Nat.reduceLT, Nat.reduceLeDiff, Nat.reduceEqDiff, Nat.reduceMul, Nat.reduceAdd, Nat.reduceSub, Int.reduceLE, Int.reduceLT]
        repeat refine And.intro (by first | assumption | (show chk _ _ _ = true; kernel_rfl) | omega | (simp; done)) ?_
        refine kIf_of (fun hb => ?_) (fun hb => absurd (by simpa using hb) hc1)
        as_aux_lemma =>
          try simp (maxSteps := 2000000) only [go_sem, ↓reduceIte, reduceCtorEq, Nat.reduceLT, Nat.reduceLeDiff, Nat.reduceEqDiff, Nat.reduceMul, Nat.reduceAdd, Nat.reduceSub, Int.reduceLE, Int.reduceLT]
          repeat refine And.intro (by first | assumption | (show chk _ _ _ = true; kernel_rfl) | omega | (simp; done)) ?_
          refine kIf_of (fun hb => ?_) (fun hb => absurd (by simpa using hb) hc2)
          as_aux_lemma =>
            try simp (maxSteps := 2000000) only [go_sem, ↓reduceIte, reduceCtorEq, Nat.reduceLT, Nat.reduceLeDiff, Nat.reduceEqDiff, Nat.reduceMul, Nat.reduceAdd, Nat.reduceSub, Int.reduceLE, Int.reduceLT]
            repeat refine And.intro (by first | assumption | (show chk _ _ _ = true; kernel_rfl) | omega | (simp; done)) ?_
            refine kIf_of (fun hb => ?_) (fun hb => absurd hc3 (by simpa using hb))
            as_aux_lemma =>
              simp (maxSteps := 2000000) only [go_sem, ↓reduceIte, reduceCtorEq, Nat.reduceLT, Nat.reduceLeDiff, Nat.reduceEqDiff, Nat.reduceMul, Nat.reduceAdd, Nat.reduceSub, Int.reduceLE, Int.reduceLT] <;> first | rfl | (repeat (first | refine And.intro (by first | assumption | (show chk _ _ _ = true; kernel_rfl) | omega | (simp; done)) ?_ | rfl | simp only [rowsD_append, rowsD_cons, rowsD_nil, rowsD_set, rowsD_take, rowsD_drop, rowsD_replicate]); done) | (simp only [rowsD_append, rowsD_cons, rowsD_nil, rowsD_set, rowsD_take, rowsD_drop, rowsD_replicate]; done) | (simp only [rowsD_append, rowsD_cons, rowsD_nil, rowsD_set, rowsD_take, rowsD_drop, rowsD_replicate]; rfl)

end Go.Ax
