/- The walk of need_Top, printed by gen.py. -/
import Derived.Test.YtmpbhgofllbejaaGa
import Derived.Test.YtmpbhgofllbejaaGs
import Derived.Test.YtmpbhgofllbejaaWa
set_option linter.unusedVariables false
set_option linter.unusedSimpArgs false
set_option linter.unusedSimpArgs false
set_option linter.unusedVariables false
namespace Go.Ax
open Go Go.Proofs
set_option maxRecDepth 100000
set_option maxHeartbeats 4000000
theorem need_Top.spec {a0 : api_Config} {a1 : List api_Leg} {a2 : List api_Open} {a3 : Int} {r : Int × Int} (h : need_Top.f a0 a1 a2 a3 = some r) : FSpec Try.prog 86 [(true, api_Config.D a0), (false, [.l (rowsD api_Leg.D a1)]), (false, [.l (rowsD api_Open.D a2)]), (false, [.v (.int .i64 a3)])] [.agg (wD r.1), .one (.d (.v (.int .i64 r.2)))] := by
  unfold need_Top.f at h
  refine fspec_data mixed Try.func86 rfl (by decide) [0, 1, 2, 3, 4, 8, 9, 10, 11, 12, 14, 16, 17, 19, 44, 45, 46, 57, 58, 59] (rs := [.cell 8 59, .tmp 9]) rfl (by decide) (n := 104) rfl (by simp) ?_
  try simp (maxSteps := 2000000) only [go_sem, ↓reduceIte, reduceCtorEq, Nat.reduceLT, Nat.reduceLeDiff, Nat.reduceEqDiff, Nat.reduceMul, Nat.reduceAdd, Nat.reduceSub, Int.reduceLE, Int.reduceLT]
  repeat refine And.intro (by first | assumption | (show chk _ _ _ = true; kernel_rfl) | omega | (simp; done)) ?_
  obtain ⟨y1_2, hy1_2, h⟩ := bd h
  refine aCall_of (need_Legs.spec hy1_2) ?_
  try simp (maxSteps := 2000000) only [go_sem, ↓reduceIte, reduceCtorEq, Nat.reduceLT, Nat.reduceLeDiff, Nat.reduceEqDiff, Nat.reduceMul, Nat.reduceAdd, Nat.reduceSub, Int.reduceLE, Int.reduceLT]
  repeat refine And.intro (by first | assumption | (show chk _ _ _ = true; kernel_rfl) | omega | (simp; done)) ?_
  refine kIf_of (fun hb => ?_) (fun hb => ?_)
  · replace h := ifn h (by simpa using hb)
    try simp (maxSteps := 2000000) only [go_sem, ↓reduceIte, reduceCtorEq, Nat.reduceLT, Nat.reduceLeDiff, Nat.reduceEqDiff, Nat.reduceMul, Nat.reduceAdd, Nat.reduceSub, Int.reduceLE, Int.reduceLT]
    repeat refine And.intro (by first | assumption | (show chk _ _ _ = true; kernel_rfl) | omega | (simp; done)) ?_
    obtain ⟨y1_7, hy1_7, h⟩ := bd h
    refine aCall_of (need_Opens.spec hy1_7) ?_
    try simp (maxSteps := 2000000) only [go_sem, ↓reduceIte, reduceCtorEq, Nat.reduceLT, Nat.reduceLeDiff, Nat.reduceEqDiff, Nat.reduceMul, Nat.reduceAdd, Nat.reduceSub, Int.reduceLE, Int.reduceLT]
    repeat refine And.intro (by first | assumption | (show chk _ _ _ = true; kernel_rfl) | omega | (simp; done)) ?_
    refine kIf_of (fun hb => ?_) (fun hb => ?_)
    · replace h := ifp h (by simpa using hb)
      obtain rfl := Option.some.inj h
      simp (maxSteps := 2000000) only [go_sem, ↓reduceIte, reduceCtorEq, Nat.reduceLT, Nat.reduceLeDiff, Nat.reduceEqDiff, Nat.reduceMul, Nat.reduceAdd, Nat.reduceSub, Int.reduceLE, Int.reduceLT] <;> first | rfl | (repeat (first | refine And.intro (by first | assumption | (show chk _ _ _ = true; kernel_rfl) | omega | (simp; done)) ?_ | rfl | simp only [rowsD_append, rowsD_cons, rowsD_nil, rowsD_set, rowsD_take, rowsD_drop, rowsD_replicate]); done) | (simp only [rowsD_append, rowsD_cons, rowsD_nil, rowsD_set, rowsD_take, rowsD_drop, rowsD_replicate]; done) | (simp only [rowsD_append, rowsD_cons, rowsD_nil, rowsD_set, rowsD_take, rowsD_drop, rowsD_replicate]; rfl)
    · replace h := ifn h (by simpa using hb)
      try simp (maxSteps := 2000000) only [go_sem, ↓reduceIte, reduceCtorEq, Nat.reduceLT, Nat.reduceLeDiff, Nat.reduceEqDiff, Nat.reduceMul, Nat.reduceAdd, Nat.reduceSub, Int.reduceLE, Int.reduceLT]
      repeat refine And.intro (by first | assumption | (show chk _ _ _ = true; kernel_rfl) | omega | (simp; done)) ?_
      refine kIf_of (fun hb => ?_) (fun hb => ?_)
      · replace h := ifn h (by simpa using hb)
        try simp (maxSteps := 2000000) only [go_sem, ↓reduceIte, reduceCtorEq, Nat.reduceLT, Nat.reduceLeDiff, Nat.reduceEqDiff, Nat.reduceMul, Nat.reduceAdd, Nat.reduceSub, Int.reduceLE, Int.reduceLT]
        repeat refine And.intro (by first | assumption | (show chk _ _ _ = true; kernel_rfl) | omega | (simp; done)) ?_
        refine kIf_of (fun hb => ?_) (fun hb => ?_)
        · replace h := ifp h (by simpa using hb)
          obtain rfl := Option.some.inj h
          simp (maxSteps := 2000000) only [go_sem, ↓reduceIte, reduceCtorEq, Nat.reduceLT, Nat.reduceLeDiff, Nat.reduceEqDiff, Nat.reduceMul, Nat.reduceAdd, Nat.reduceSub, Int.reduceLE, Int.reduceLT] <;> first | rfl | (repeat (first | refine And.intro (by first | assumption | (show chk _ _ _ = true; kernel_rfl) | omega | (simp; done)) ?_ | rfl | simp only [rowsD_append, rowsD_cons, rowsD_nil, rowsD_set, rowsD_take, rowsD_drop, rowsD_replicate]); done) | (simp only [rowsD_append, rowsD_cons, rowsD_nil, rowsD_set, rowsD_take, rowsD_drop, rowsD_replicate]; done) | (simp only [rowsD_append, rowsD_cons, rowsD_nil, rowsD_set, rowsD_take, rowsD_drop, rowsD_replicate]; rfl)
        · replace h := ifn h (by simpa using hb)
          try simp (maxSteps := 2000000) only [go_sem, ↓reduceIte, reduceCtorEq, Nat.reduceLT, Nat.reduceLeDiff, Nat.reduceEqDiff, Nat.reduceMul, Nat.reduceAdd, Nat.reduceSub, Int.reduceLE, Int.reduceLT]
          repeat refine And.intro (by first | assumption | (show chk _ _ _ = true; kernel_rfl) | omega | (simp; done)) ?_
          obtain ⟨s2, h2, q2⟩ := bd h
          rw [aCode_loop]
          refine aLoop_fx (α := Nat × Int × Int) (fun p => (⟨104, [], [(0, .agg (api_Config.D a0)), (1, .one (.l (rowsD api_Leg.D a1))), (2, .one (.l (rowsD api_Open.D a2))), (3, .one (.v (.int .i64 a3))), (4, .box [.d (.l (rowsD api_Inst.D a0.Insts)), .d (.v (.int .i64 a0.Skin)), .d (.v (.int .i64 a0.Times)), .d (.v (.int .i64 a0.Port)), .d (.v (.int .i64 a0.Bid)), .d (.v (.int .i64 a0.LotSize)), .d (.v (.int .i64 a0.HedgeMin))]), (8, .box [.d (.v (.int .i64 (wHi 0))), .d (.v (.int .u64 (wLo 0)))]), (9, .one (.v (.int .i64 0))), (10, .one (.v (.int .i64 p.2.1))), (11, .one (.v (.int .i64 0))), (12, .one (.v (.int .i64 0))), (14, .none), (16, .none), (17, .none), (19, .none), (44, .one (.l (rowsD api_Leg.D a1))), (45, .one (.v (.int .i64 (a1.length : Int)))), (46, .one (.v (.int .i64 p.2.2))), (57, .none), (58, .none), (59, .none)]⟩ : S)) (fun p => need_Top.l0 a1 a3 p.1 p.2.1 p.2.2 = some s2) (fun p => p.1) (FUEL, 0, 0) h2 ?_ ?_
          · (try simp only [go_sem, rowsD_append, rowsD_cons, rowsD_nil, rowsD_set, rowsD_take, rowsD_drop, rowsD_replicate]) <;> (repeat' first | exact FlexV.nil | exact FlexT.refl _ | exact FlexT.none _ | exact FlexT.frz _ _ | exact FlexT.nil _ | exact FlexB.nil | exact FlexL.refl _ | exact FlexL.nil _ | exact FlexL.frz _ _ | refine FlexV.cons ?_ ?_ | refine FlexT.box ?_ | refine FlexB.cons ?_ ?_ | refine Flex.mk ?_)
          rintro ⟨k2, x10_2, x46_2⟩ h
          simp only at h
          obtain _ | k2 := k2
          · exact absurd h (by simp [need_Top.l0])
          rw [need_Top.l0] at h
          try simp (maxSteps := 2000000) only [go_sem, ↓reduceIte, reduceCtorEq, Nat.reduceLT, Nat.reduceLeDiff, Nat.reduceEqDiff, Nat.reduceMul, Nat.reduceAdd, Nat.reduceSub, Int.reduceLE, Int.reduceLT]
          repeat refine And.intro (by first | assumption | (show chk _ _ _ = true; kernel_rfl) | omega | (simp; done)) ?_
          refine kIf_of (fun hb => ?_) (fun hb => ?_)
          · replace h := ifp h (by simpa using hb)
            obtain ⟨⟨hg8_0_0, hg8_0_1⟩, h⟩ := gd h
            try simp (maxSteps := 2000000) only [go_sem, ↓reduceIte, reduceCtorEq, Nat.reduceLT, Nat.reduceLeDiff, Nat.reduceEqDiff, Nat.reduceMul, Nat.reduceAdd, Nat.reduceSub, Int.reduceLE, Int.reduceLT]
            repeat refine And.intro (by first | assumption | (show chk _ _ _ = true; kernel_rfl) | omega | (simp; done)) ?_
            refine kIf_of (fun hb => ?_) (fun hb => ?_)
            · replace h := ifp h (by simpa using hb)
              try simp (maxSteps := 2000000) only [go_sem, ↓reduceIte, reduceCtorEq, Nat.reduceLT, Nat.reduceLeDiff, Nat.reduceEqDiff, Nat.reduceMul, Nat.reduceAdd, Nat.reduceSub, Int.reduceLE, Int.reduceLT]
              repeat refine And.intro (by first | assumption | (show chk _ _ _ = true; kernel_rfl) | omega | (simp; done)) ?_
              refine Round.fx (k2, (rd a1 x46_2).Q, IntKind.i64.wrap (x46_2 + 1)) h (Nat.lt_succ_self k2) ?_
              (try simp only [go_sem, rowsD_append, rowsD_cons, rowsD_nil, rowsD_set, rowsD_take, rowsD_drop, rowsD_replicate]) <;> (repeat' first | exact FlexV.nil | exact FlexT.refl _ | exact FlexT.none _ | exact FlexT.frz _ _ | exact FlexT.nil _ | exact FlexB.nil | exact FlexL.refl _ | exact FlexL.nil _ | exact FlexL.frz _ _ | refine FlexV.cons ?_ ?_ | refine FlexT.box ?_ | refine FlexB.cons ?_ ?_ | refine Flex.mk ?_)
            · replace h := ifn h (by simpa using hb)
              try simp (maxSteps := 2000000) only [go_sem, ↓reduceIte, reduceCtorEq, Nat.reduceLT, Nat.reduceLeDiff, Nat.reduceEqDiff, Nat.reduceMul, Nat.reduceAdd, Nat.reduceSub, Int.reduceLE, Int.reduceLT]
              repeat refine And.intro (by first | assumption | (show chk _ _ _ = true; kernel_rfl) | omega | (simp; done)) ?_
              refine Round.fx (k2, x10_2, IntKind.i64.wrap (x46_2 + 1)) h (Nat.lt_succ_self k2) ?_
              (try simp only [go_sem, rowsD_append, rowsD_cons, rowsD_nil, rowsD_set, rowsD_take, rowsD_drop, rowsD_replicate]) <;> (repeat' first | exact FlexV.nil | exact FlexT.refl _ | exact FlexT.none _ | exact FlexT.frz _ _ | exact FlexT.nil _ | exact FlexB.nil | exact FlexL.refl _ | exact FlexL.nil _ | exact FlexL.frz _ _ | refine FlexV.cons ?_ ?_ | refine FlexT.box ?_ | refine FlexB.cons ?_ ?_ | refine Flex.mk ?_)
          · replace h := ifn h (by simpa using hb)
            obtain rfl := Option.some.inj h
            have h := q2
            try dsimp only at h
            try simp (maxSteps := 2000000) only [go_sem, ↓reduceIte, reduceCtorEq, Nat.reduceLT, Nat.reduceLeDiff, Nat.reduceEqDiff, Nat.reduceMul, Nat.reduceAdd, Nat.reduceSub, Int.reduceLE, Int.reduceLT]
            repeat refine And.intro (by first | assumption | (show chk _ _ _ = true; kernel_rfl) | omega | (simp; done)) ?_
            obtain ⟨s5, h5, q5⟩ := bd h
            rw [aCode_loop]
            refine aLoop_fx (α := Nat × Int × Int × Int) (fun p => (⟨104, [], [(0, .agg (api_Config.D a0)), (1, .one (.l (rowsD api_Leg.D a1))), (2, .one (.l (rowsD api_Open.D a2))), (3, .one (.v (.int .i64 a3))), (4, .box [.d (.l (rowsD api_Inst.D a0.Insts)), .d (.v (.int .i64 a0.Skin)), .d (.v (.int .i64 a0.Times)), .d (.v (.int .i64 a0.Port)), .d (.v (.int .i64 a0.Bid)), .d (.v (.int .i64 a0.LotSize)), .d (.v (.int .i64 a0.HedgeMin))]), (8, .box [.d (.v (.int .i64 (wHi 0))), .d (.v (.int .u64 (wLo 0)))]), (9, .one (.v (.int .i64 0))), (10, .one (.v (.int .i64 x10_2))), (11, .one (.v (.int .i64 p.2.1))), (12, .one (.v (.int .i64 p.2.2.1))), (14, .none), (16, .none), (17, .none), (19, .none), (44, .one (.l (rowsD api_Leg.D a1))), (45, .one (.v (.int .i64 (a1.length : Int)))), (46, .one (.v (.int .i64 x46_2))), (57, .one (.l (rowsD api_Open.D a2))), (58, .one (.v (.int .i64 (a2.length : Int)))), (59, .one (.v (.int .i64 p.2.2.2)))]⟩ : S)) (fun p => need_Top.l1 a2 a3 p.1 p.2.1 p.2.2.1 p.2.2.2 = some s5) (fun p => p.1) (FUEL, 0, 0, 0) h5 ?_ ?_
            · (try simp only [go_sem, rowsD_append, rowsD_cons, rowsD_nil, rowsD_set, rowsD_take, rowsD_drop, rowsD_replicate]) <;> (repeat' first | exact FlexV.nil | exact FlexT.refl _ | exact FlexT.none _ | exact FlexT.frz _ _ | exact FlexT.nil _ | exact FlexB.nil | exact FlexL.refl _ | exact FlexL.nil _ | exact FlexL.frz _ _ | refine FlexV.cons ?_ ?_ | refine FlexT.box ?_ | refine FlexB.cons ?_ ?_ | refine Flex.mk ?_)
            rintro ⟨k5, x11_5, x12_5, x59_5⟩ h
            simp only at h
            obtain _ | k5 := k5
            · exact absurd h (by simp [need_Top.l1])
            rw [need_Top.l1] at h
            try simp (maxSteps := 2000000) only [go_sem, ↓reduceIte, reduceCtorEq, Nat.reduceLT, Nat.reduceLeDiff, Nat.reduceEqDiff, Nat.reduceMul, Nat.reduceAdd, Nat.reduceSub, Int.reduceLE, Int.reduceLT]
            repeat refine And.intro (by first | assumption | (show chk _ _ _ = true; kernel_rfl) | omega | (simp; done)) ?_
            refine kIf_of (fun hb => ?_) (fun hb => ?_)
            · replace h := ifp h (by simpa using hb)
              obtain ⟨⟨hg14_0_0, hg14_0_1⟩, h⟩ := gd h
              try simp (maxSteps := 2000000) only [go_sem, ↓reduceIte, reduceCtorEq, Nat.reduceLT, Nat.reduceLeDiff, Nat.reduceEqDiff, Nat.reduceMul, Nat.reduceAdd, Nat.reduceSub, Int.reduceLE, Int.reduceLT]
              repeat refine And.intro (by first | assumption | (show chk _ _ _ = true; kernel_rfl) | omega | (simp; done)) ?_
              refine kIf_of (fun hb => ?_) (fun hb => ?_)
              · replace h := ifp h (by simpa using hb)
                try simp (maxSteps := 2000000) only [go_sem, ↓reduceIte, reduceCtorEq, Nat.reduceLT, Nat.reduceLeDiff, Nat.reduceEqDiff, Nat.reduceMul, Nat.reduceAdd, Nat.reduceSub, Int.reduceLE, Int.reduceLT]
                repeat refine And.intro (by first | assumption | (show chk _ _ _ = true; kernel_rfl) | omega | (simp; done)) ?_
                refine Round.fx (k5, (rd a2 x59_5).Buy, (rd a2 x59_5).Sell, IntKind.i64.wrap (x59_5 + 1)) h (Nat.lt_succ_self k5) ?_
                (try simp only [go_sem, rowsD_append, rowsD_cons, rowsD_nil, rowsD_set, rowsD_take, rowsD_drop, rowsD_replicate]) <;> (repeat' first | exact FlexV.nil | exact FlexT.refl _ | exact FlexT.none _ | exact FlexT.frz _ _ | exact FlexT.nil _ | exact FlexB.nil | exact FlexL.refl _ | exact FlexL.nil _ | exact FlexL.frz _ _ | refine FlexV.cons ?_ ?_ | refine FlexT.box ?_ | refine FlexB.cons ?_ ?_ | refine Flex.mk ?_)
              · replace h := ifn h (by simpa using hb)
                try simp (maxSteps := 2000000) only [go_sem, ↓reduceIte, reduceCtorEq, Nat.reduceLT, Nat.reduceLeDiff, Nat.reduceEqDiff, Nat.reduceMul, Nat.reduceAdd, Nat.reduceSub, Int.reduceLE, Int.reduceLT]
                repeat refine And.intro (by first | assumption | (show chk _ _ _ = true; kernel_rfl) | omega | (simp; done)) ?_
                refine Round.fx (k5, x11_5, x12_5, IntKind.i64.wrap (x59_5 + 1)) h (Nat.lt_succ_self k5) ?_
                (try simp only [go_sem, rowsD_append, rowsD_cons, rowsD_nil, rowsD_set, rowsD_take, rowsD_drop, rowsD_replicate]) <;> (repeat' first | exact FlexV.nil | exact FlexT.refl _ | exact FlexT.none _ | exact FlexT.frz _ _ | exact FlexT.nil _ | exact FlexB.nil | exact FlexL.refl _ | exact FlexL.nil _ | exact FlexL.frz _ _ | refine FlexV.cons ?_ ?_ | refine FlexT.box ?_ | refine FlexB.cons ?_ ?_ | refine Flex.mk ?_)
            · replace h := ifn h (by simpa using hb)
              obtain rfl := Option.some.inj h
              have h := q5
              try dsimp only at h
              try simp (maxSteps := 2000000) only [go_sem, ↓reduceIte, reduceCtorEq, Nat.reduceLT, Nat.reduceLeDiff, Nat.reduceEqDiff, Nat.reduceMul, Nat.reduceAdd, Nat.reduceSub, Int.reduceLE, Int.reduceLT]
              repeat refine And.intro (by first | assumption | (show chk _ _ _ = true; kernel_rfl) | omega | (simp; done)) ?_
              obtain ⟨y18_1, hy18_1, h⟩ := bd h
              refine aCall_of (wide_Of.spec hy18_1) ?_
              try simp (maxSteps := 2000000) only [go_sem, ↓reduceIte, reduceCtorEq, Nat.reduceLT, Nat.reduceLeDiff, Nat.reduceEqDiff, Nat.reduceMul, Nat.reduceAdd, Nat.reduceSub, Int.reduceLE, Int.reduceLT]
              repeat refine And.intro (by first | assumption | (show chk _ _ _ = true; kernel_rfl) | omega | (simp; done)) ?_
              obtain ⟨y18_3, hy18_3, h⟩ := bd h
              refine aCall_of (wide_Of.spec hy18_3) ?_
              try simp (maxSteps := 2000000) only [go_sem, ↓reduceIte, reduceCtorEq, Nat.reduceLT, Nat.reduceLeDiff, Nat.reduceEqDiff, Nat.reduceMul, Nat.reduceAdd, Nat.reduceSub, Int.reduceLE, Int.reduceLT]
              repeat refine And.intro (by first | assumption | (show chk _ _ _ = true; kernel_rfl) | omega | (simp; done)) ?_
              obtain ⟨y18_4, hy18_4, h⟩ := bd h
              refine aCall_of (wide_Add.spec hy18_4) ?_
              try simp (maxSteps := 2000000) only [go_sem, ↓reduceIte, reduceCtorEq, Nat.reduceLT, Nat.reduceLeDiff, Nat.reduceEqDiff, Nat.reduceMul, Nat.reduceAdd, Nat.reduceSub, Int.reduceLE, Int.reduceLT]
              repeat refine And.intro (by first | assumption | (show chk _ _ _ = true; kernel_rfl) | omega | (simp; done)) ?_
              obtain ⟨y19_1, hy19_1, h⟩ := bd h
              refine aCall_of (wide_Of.spec hy19_1) ?_
              try simp (maxSteps := 2000000) only [go_sem, ↓reduceIte, reduceCtorEq, Nat.reduceLT, Nat.reduceLeDiff, Nat.reduceEqDiff, Nat.reduceMul, Nat.reduceAdd, Nat.reduceSub, Int.reduceLE, Int.reduceLT]
              repeat refine And.intro (by first | assumption | (show chk _ _ _ = true; kernel_rfl) | omega | (simp; done)) ?_
              obtain ⟨y19_3, hy19_3, h⟩ := bd h
              refine aCall_of (wide_Of.spec hy19_3) ?_
              try simp (maxSteps := 2000000) only [go_sem, ↓reduceIte, reduceCtorEq, Nat.reduceLT, Nat.reduceLeDiff, Nat.reduceEqDiff, Nat.reduceMul, Nat.reduceAdd, Nat.reduceSub, Int.reduceLE, Int.reduceLT]
              repeat refine And.intro (by first | assumption | (show chk _ _ _ = true; kernel_rfl) | omega | (simp; done)) ?_
              obtain ⟨y19_4, hy19_4, h⟩ := bd h
              refine aCall_of (wide_Sub.spec hy19_4) ?_
              try simp (maxSteps := 2000000) only [go_sem, ↓reduceIte, reduceCtorEq, Nat.reduceLT, Nat.reduceLeDiff, Nat.reduceEqDiff, Nat.reduceMul, Nat.reduceAdd, Nat.reduceSub, Int.reduceLE, Int.reduceLT]
              repeat refine And.intro (by first | assumption | (show chk _ _ _ = true; kernel_rfl) | omega | (simp; done)) ?_
              obtain ⟨y20_1, hy20_1, h⟩ := bd h
              refine aCall_of (wide_Abs.spec hy20_1) ?_
              try simp (maxSteps := 2000000) only [go_sem, ↓reduceIte, reduceCtorEq, Nat.reduceLT, Nat.reduceLeDiff, Nat.reduceEqDiff, Nat.reduceMul, Nat.reduceAdd, Nat.reduceSub, Int.reduceLE, Int.reduceLT]
              repeat refine And.intro (by first | assumption | (show chk _ _ _ = true; kernel_rfl) | omega | (simp; done)) ?_
              obtain ⟨y21_1, hy21_1, h⟩ := bd h
              refine aCall_of (wide_Abs.spec hy21_1) ?_
              try simp (maxSteps := 2000000) only [go_sem, ↓reduceIte, reduceCtorEq, Nat.reduceLT, Nat.reduceLeDiff, Nat.reduceEqDiff, Nat.reduceMul, Nat.reduceAdd, Nat.reduceSub, Int.reduceLE, Int.reduceLT]
              repeat refine And.intro (by first | assumption | (show chk _ _ _ = true; kernel_rfl) | omega | (simp; done)) ?_
              obtain ⟨y22_2, hy22_2, h⟩ := bd h
              refine aCall_of (wide_Cmp.spec hy22_2) ?_
              try simp (maxSteps := 2000000) only [go_sem, ↓reduceIte, reduceCtorEq, Nat.reduceLT, Nat.reduceLeDiff, Nat.reduceEqDiff, Nat.reduceMul, Nat.reduceAdd, Nat.reduceSub, Int.reduceLE, Int.reduceLT]
              repeat refine And.intro (by first | assumption | (show chk _ _ _ = true; kernel_rfl) | omega | (simp; done)) ?_
              refine kIf_of (fun hb => ?_) (fun hb => ?_)
              · replace h := ifp h (by simpa using hb)
                obtain rfl := Option.some.inj h
                simp (maxSteps := 2000000) only [go_sem, ↓reduceIte, reduceCtorEq, Nat.reduceLT, Nat.reduceLeDiff, Nat.reduceEqDiff, Nat.reduceMul, Nat.reduceAdd, Nat.reduceSub, Int.reduceLE, Int.reduceLT] <;> first | rfl | (repeat (first | refine And.intro (by first | assumption | (show chk _ _ _ = true; kernel_rfl) | omega | (simp; done)) ?_ | rfl | simp only [rowsD_append, rowsD_cons, rowsD_nil, rowsD_set, rowsD_take, rowsD_drop, rowsD_replicate]); done) | (simp only [rowsD_append, rowsD_cons, rowsD_nil, rowsD_set, rowsD_take, rowsD_drop, rowsD_replicate]; done) | (simp only [rowsD_append, rowsD_cons, rowsD_nil, rowsD_set, rowsD_take, rowsD_drop, rowsD_replicate]; rfl)
              · replace h := ifn h (by simpa using hb)
                obtain rfl := Option.some.inj h
                simp (maxSteps := 2000000) only [go_sem, ↓reduceIte, reduceCtorEq, Nat.reduceLT, Nat.reduceLeDiff, Nat.reduceEqDiff, Nat.reduceMul, Nat.reduceAdd, Nat.reduceSub, Int.reduceLE, Int.reduceLT] <;> first | rfl | (repeat (first | refine And.intro (by first | assumption | (show chk _ _ _ = true; kernel_rfl) | omega | (simp; done)) ?_ | rfl | simp only [rowsD_append, rowsD_cons, rowsD_nil, rowsD_set, rowsD_take, rowsD_drop, rowsD_replicate]); done) | (simp only [rowsD_append, rowsD_cons, rowsD_nil, rowsD_set, rowsD_take, rowsD_drop, rowsD_replicate]; done) | (simp only [rowsD_append, rowsD_cons, rowsD_nil, rowsD_set, rowsD_take, rowsD_drop, rowsD_replicate]; rfl)
      · replace h := ifp h (by simpa using hb)
        obtain rfl := Option.some.inj h
        simp (maxSteps := 2000000) only [go_sem, ↓reduceIte, reduceCtorEq, Nat.reduceLT, Nat.reduceLeDiff, Nat.reduceEqDiff, Nat.reduceMul, Nat.reduceAdd, Nat.reduceSub, Int.reduceLE, Int.reduceLT] <;> first | rfl | (repeat (first | refine And.intro (by first | assumption | (show chk _ _ _ = true; kernel_rfl) | omega | (simp; done)) ?_ | rfl | simp only [rowsD_append, rowsD_cons, rowsD_nil, rowsD_set, rowsD_take, rowsD_drop, rowsD_replicate]); done) | (simp only [rowsD_append, rowsD_cons, rowsD_nil, rowsD_set, rowsD_take, rowsD_drop, rowsD_replicate]; done) | (simp only [rowsD_append, rowsD_cons, rowsD_nil, rowsD_set, rowsD_take, rowsD_drop, rowsD_replicate]; rfl)
  · replace h := ifp h (by simpa using hb)
    obtain rfl := Option.some.inj h
    simp (maxSteps := 2000000) only [go_sem, ↓reduceIte, reduceCtorEq, Nat.reduceLT, Nat.reduceLeDiff, Nat.reduceEqDiff, Nat.reduceMul, Nat.reduceAdd, Nat.reduceSub, Int.reduceLE, Int.reduceLT] <;> first | rfl | (repeat (first | refine And.intro (by first | assumption | (show chk _ _ _ = true; kernel_rfl) | omega | (simp; done)) ?_ | rfl | simp only [rowsD_append, rowsD_cons, rowsD_nil, rowsD_set, rowsD_take, rowsD_drop, rowsD_replicate]); done) | (simp only [rowsD_append, rowsD_cons, rowsD_nil, rowsD_set, rowsD_take, rowsD_drop, rowsD_replicate]; done) | (simp only [rowsD_append, rowsD_cons, rowsD_nil, rowsD_set, rowsD_take, rowsD_drop, rowsD_replicate]; rfl)
end Go.Ax

/- The walk of need_Worst, printed by gen.py. -/
set_option linter.unusedSimpArgs false
set_option linter.unusedVariables false
namespace Go.Ax
open Go Go.Proofs
set_option maxRecDepth 100000
set_option maxHeartbeats 4000000
theorem need_Worst.spec {a0 : api_Config} {a1 : List api_Leg} {a2 : List api_Open} {r : Int × Int} (h : need_Worst.f a0 a1 a2 = some r) : FSpec Try.prog 87 [(true, api_Config.D a0), (false, [.l (rowsD api_Leg.D a1)]), (false, [.l (rowsD api_Open.D a2)])] [.agg (wD r.1), .one (.d (.v (.int .i64 r.2)))] := by
  unfold need_Worst.f at h
  refine fspec_data mixed Try.func87 rfl (by decide) [0, 1, 2, 3, 6, 7, 8, 9, 10, 11, 13, 15, 29, 30, 31] (rs := [.cell 6 59, .tmp 7]) rfl (by decide) (n := 62) rfl (by simp) ?_
  try simp (maxSteps := 2000000) only [go_sem, ↓reduceIte, reduceCtorEq, Nat.reduceLT, Nat.reduceLeDiff, Nat.reduceEqDiff, Nat.reduceMul, Nat.reduceAdd, Nat.reduceSub, Int.reduceLE, Int.reduceLT]
  repeat refine And.intro (by first | assumption | (show chk _ _ _ = true; kernel_rfl) | omega | (simp; done)) ?_
  obtain ⟨y1_2, hy1_2, h⟩ := bd h
  refine aCall_of (need_Legs.spec hy1_2) ?_
  try simp (maxSteps := 2000000) only [go_sem, ↓reduceIte, reduceCtorEq, Nat.reduceLT, Nat.reduceLeDiff, Nat.reduceEqDiff, Nat.reduceMul, Nat.reduceAdd, Nat.reduceSub, Int.reduceLE, Int.reduceLT]
  repeat refine And.intro (by first | assumption | (show chk _ _ _ = true; kernel_rfl) | omega | (simp; done)) ?_
  refine kIf_of (fun hb => ?_) (fun hb => ?_)
  · replace h := ifn h (by simpa using hb)
    try simp (maxSteps := 2000000) only [go_sem, ↓reduceIte, reduceCtorEq, Nat.reduceLT, Nat.reduceLeDiff, Nat.reduceEqDiff, Nat.reduceMul, Nat.reduceAdd, Nat.reduceSub, Int.reduceLE, Int.reduceLT]
    repeat refine And.intro (by first | assumption | (show chk _ _ _ = true; kernel_rfl) | omega | (simp; done)) ?_
    obtain ⟨y1_7, hy1_7, h⟩ := bd h
    refine aCall_of (need_Opens.spec hy1_7) ?_
    try simp (maxSteps := 2000000) only [go_sem, ↓reduceIte, reduceCtorEq, Nat.reduceLT, Nat.reduceLeDiff, Nat.reduceEqDiff, Nat.reduceMul, Nat.reduceAdd, Nat.reduceSub, Int.reduceLE, Int.reduceLT]
    repeat refine And.intro (by first | assumption | (show chk _ _ _ = true; kernel_rfl) | omega | (simp; done)) ?_
    refine kIf_of (fun hb => ?_) (fun hb => ?_)
    · replace h := ifp h (by simpa using hb)
      obtain rfl := Option.some.inj h
      simp (maxSteps := 2000000) only [go_sem, ↓reduceIte, reduceCtorEq, Nat.reduceLT, Nat.reduceLeDiff, Nat.reduceEqDiff, Nat.reduceMul, Nat.reduceAdd, Nat.reduceSub, Int.reduceLE, Int.reduceLT] <;> first | rfl | (repeat (first | refine And.intro (by first | assumption | (show chk _ _ _ = true; kernel_rfl) | omega | (simp; done)) ?_ | rfl | simp only [rowsD_append, rowsD_cons, rowsD_nil, rowsD_set, rowsD_take, rowsD_drop, rowsD_replicate]); done) | (simp only [rowsD_append, rowsD_cons, rowsD_nil, rowsD_set, rowsD_take, rowsD_drop, rowsD_replicate]; done) | (simp only [rowsD_append, rowsD_cons, rowsD_nil, rowsD_set, rowsD_take, rowsD_drop, rowsD_replicate]; rfl)
    · replace h := ifn h (by simpa using hb)
      try simp (maxSteps := 2000000) only [go_sem, ↓reduceIte, reduceCtorEq, Nat.reduceLT, Nat.reduceLeDiff, Nat.reduceEqDiff, Nat.reduceMul, Nat.reduceAdd, Nat.reduceSub, Int.reduceLE, Int.reduceLT]
      repeat refine And.intro (by first | assumption | (show chk _ _ _ = true; kernel_rfl) | omega | (simp; done)) ?_
      obtain ⟨s1, h1, q1⟩ := bd h
      rw [aCode_loop]
      refine aLoop_fx (α := Nat × (List Int) × Int) (fun p => (⟨62, [], [(0, .agg (api_Config.D a0)), (1, .one (.l (rowsD api_Leg.D a1))), (2, .one (.l (rowsD api_Open.D a2))), (3, .box [.d (.l (rowsD api_Inst.D a0.Insts)), .d (.v (.int .i64 a0.Skin)), .d (.v (.int .i64 a0.Times)), .d (.v (.int .i64 a0.Port)), .d (.v (.int .i64 a0.Bid)), .d (.v (.int .i64 a0.LotSize)), .d (.v (.int .i64 a0.HedgeMin))]), (6, .box [.d (.v (.int .i64 (wHi 0))), .d (.v (.int .u64 (wLo 0)))]), (7, .one (.v (.int .i64 0))), (8, .own 2 (rowsD wD p.2.1)), (9, .none), (10, .none), (11, .none), (13, .none), (15, .none), (29, .one (.l (rowsD api_Inst.D a0.Insts))), (30, .one (.v (.int .i64 (a0.Insts.length : Int)))), (31, .one (.v (.int .i64 p.2.2)))]⟩ : S)) (fun p => need_Worst.l0 a0 a1 a2 p.1 p.2.1 p.2.2 = some s1) (fun p => p.1) (FUEL, ([] : List Int), 0) h1 ?_ ?_
      · (try simp only [go_sem, rowsD_append, rowsD_cons, rowsD_nil, rowsD_set, rowsD_take, rowsD_drop, rowsD_replicate]) <;> (repeat' first | exact FlexV.nil | exact FlexT.refl _ | exact FlexT.none _ | exact FlexT.frz _ _ | exact FlexT.nil _ | exact FlexB.nil | exact FlexL.refl _ | exact FlexL.nil _ | exact FlexL.frz _ _ | refine FlexV.cons ?_ ?_ | refine FlexT.box ?_ | refine FlexB.cons ?_ ?_ | refine Flex.mk ?_)
      rintro ⟨k1, x8_1, x31_1⟩ h
      simp only at h
      obtain _ | k1 := k1
      · exact absurd h (by simp [need_Worst.l0])
      rw [need_Worst.l0] at h
      try simp (maxSteps := 2000000) only [go_sem, ↓reduceIte, reduceCtorEq, Nat.reduceLT, Nat.reduceLeDiff, Nat.reduceEqDiff, Nat.reduceMul, Nat.reduceAdd, Nat.reduceSub, Int.reduceLE, Int.reduceLT]
      repeat refine And.intro (by first | assumption | (show chk _ _ _ = true; kernel_rfl) | omega | (simp; done)) ?_
      refine kIf_of (fun hb => ?_) (fun hb => ?_)
      · replace h := ifp h (by simpa using hb)
        obtain ⟨⟨hg6_1_0, hg6_1_1⟩, h⟩ := gd h
        try simp (maxSteps := 2000000) only [go_sem, ↓reduceIte, reduceCtorEq, Nat.reduceLT, Nat.reduceLeDiff, Nat.reduceEqDiff, Nat.reduceMul, Nat.reduceAdd, Nat.reduceSub, Int.reduceLE, Int.reduceLT]
        repeat refine And.intro (by first | assumption | (show chk _ _ _ = true; kernel_rfl) | omega | (simp; done)) ?_
        obtain ⟨y7_4, hy7_4, h⟩ := bd h
        refine aCall_of (need_Top.spec hy7_4) ?_
        try simp (maxSteps := 2000000) only [go_sem, ↓reduceIte, reduceCtorEq, Nat.reduceLT, Nat.reduceLeDiff, Nat.reduceEqDiff, Nat.reduceMul, Nat.reduceAdd, Nat.reduceSub, Int.reduceLE, Int.reduceLT]
        repeat refine And.intro (by first | assumption | (show chk _ _ _ = true; kernel_rfl) | omega | (simp; done)) ?_
        obtain ⟨y8_3, hy8_3, h⟩ := bd h
        refine aCall_of (wide_Times.spec hy8_3) ?_
        obtain ⟨hg9_3, h⟩ := gd h
        try simp (maxSteps := 2000000) only [go_sem, ↓reduceIte, reduceCtorEq, Nat.reduceLT, Nat.reduceLeDiff, Nat.reduceEqDiff, Nat.reduceMul, Nat.reduceAdd, Nat.reduceSub, Int.reduceLE, Int.reduceLT]
        repeat refine And.intro (by first | assumption | (show chk _ _ _ = true; kernel_rfl) | omega | (simp; done)) ?_
        refine Round.fx (k1, x8_1 ++ ([y8_3.1]), IntKind.i64.wrap (x31_1 + 1)) h (Nat.lt_succ_self k1) ?_
        (try simp only [go_sem, rowsD_append, rowsD_cons, rowsD_nil, rowsD_set, rowsD_take, rowsD_drop, rowsD_replicate]) <;> (repeat' first | exact FlexV.nil | exact FlexT.refl _ | exact FlexT.none _ | exact FlexT.frz _ _ | exact FlexT.nil _ | exact FlexB.nil | exact FlexL.refl _ | exact FlexL.nil _ | exact FlexL.frz _ _ | refine FlexV.cons ?_ ?_ | refine FlexT.box ?_ | refine FlexB.cons ?_ ?_ | refine Flex.mk ?_)
      · replace h := ifn h (by simpa using hb)
        obtain rfl := Option.some.inj h
        have h := q1
        try dsimp only at h
        try simp (maxSteps := 2000000) only [go_sem, ↓reduceIte, reduceCtorEq, Nat.reduceLT, Nat.reduceLeDiff, Nat.reduceEqDiff, Nat.reduceMul, Nat.reduceAdd, Nat.reduceSub, Int.reduceLE, Int.reduceLT]
        repeat refine And.intro (by first | assumption | (show chk _ _ _ = true; kernel_rfl) | omega | (simp; done)) ?_
        obtain ⟨y11_1, hy11_1, h⟩ := bd h
        refine aCall_of (wide_Sum.spec hy11_1) ?_
        obtain rfl := Option.some.inj h
        simp (maxSteps := 2000000) only [go_sem, ↓reduceIte, reduceCtorEq, Nat.reduceLT, Nat.reduceLeDiff, Nat.reduceEqDiff, Nat.reduceMul, Nat.reduceAdd, Nat.reduceSub, Int.reduceLE, Int.reduceLT] <;> first | rfl | (repeat (first | refine And.intro (by first | assumption | (show chk _ _ _ = true; kernel_rfl) | omega | (simp; done)) ?_ | rfl | simp only [rowsD_append, rowsD_cons, rowsD_nil, rowsD_set, rowsD_take, rowsD_drop, rowsD_replicate]); done) | (simp only [rowsD_append, rowsD_cons, rowsD_nil, rowsD_set, rowsD_take, rowsD_drop, rowsD_replicate]; done) | (simp only [rowsD_append, rowsD_cons, rowsD_nil, rowsD_set, rowsD_take, rowsD_drop, rowsD_replicate]; rfl)
  · replace h := ifp h (by simpa using hb)
    obtain rfl := Option.some.inj h
    simp (maxSteps := 2000000) only [go_sem, ↓reduceIte, reduceCtorEq, Nat.reduceLT, Nat.reduceLeDiff, Nat.reduceEqDiff, Nat.reduceMul, Nat.reduceAdd, Nat.reduceSub, Int.reduceLE, Int.reduceLT] <;> first | rfl | (repeat (first | refine And.intro (by first | assumption | (show chk _ _ _ = true; kernel_rfl) | omega | (simp; done)) ?_ | rfl | simp only [rowsD_append, rowsD_cons, rowsD_nil, rowsD_set, rowsD_take, rowsD_drop, rowsD_replicate]); done) | (simp only [rowsD_append, rowsD_cons, rowsD_nil, rowsD_set, rowsD_take, rowsD_drop, rowsD_replicate]; done) | (simp only [rowsD_append, rowsD_cons, rowsD_nil, rowsD_set, rowsD_take, rowsD_drop, rowsD_replicate]; rfl)
end Go.Ax

/- The walk of need_Of_1, printed by gen.py. -/
set_option linter.unusedSimpArgs false
set_option linter.unusedVariables false
namespace Go.Ax
open Go Go.Proofs
set_option maxRecDepth 100000
set_option maxHeartbeats 4000000
theorem need_Of_1.spec {a0 : api_Inst} {r : Int} (h : need_Of_1.f a0 = some r) : FSpec Try.prog 123 [(true, api_Inst.D a0)] [.one (.d (.v (.int .i64 r)))] := by
  unfold need_Of_1.f at h
  refine fspec_data mixed Try.func123 rfl (by decide) [0, 1, 2] (rs := [.tmp 2]) rfl (by decide) (n := 5) rfl (by simp) ?_
  obtain rfl := Option.some.inj h
  simp (maxSteps := 2000000) only [go_sem, ↓reduceIte, reduceCtorEq, Nat.reduceLT, Nat.reduceLeDiff, Nat.reduceEqDiff, Nat.reduceMul, Nat.reduceAdd, Nat.reduceSub, Int.reduceLE, Int.reduceLT] <;> first | rfl | (repeat (first | refine And.intro (by first | assumption | (show chk _ _ _ = true; kernel_rfl) | omega | (simp; done)) ?_ | rfl | simp only [rowsD_append, rowsD_cons, rowsD_nil, rowsD_set, rowsD_take, rowsD_drop, rowsD_replicate]); done) | (simp only [rowsD_append, rowsD_cons, rowsD_nil, rowsD_set, rowsD_take, rowsD_drop, rowsD_replicate]; done) | (simp only [rowsD_append, rowsD_cons, rowsD_nil, rowsD_set, rowsD_take, rowsD_drop, rowsD_replicate]; rfl)
end Go.Ax

/- The walk of need_by_need_Of_1, printed by gen.py. -/
set_option linter.unusedSimpArgs false
set_option linter.unusedVariables false
namespace Go.Ax
open Go Go.Proofs
set_option maxRecDepth 100000
set_option maxHeartbeats 4000000
theorem need_by_need_Of_1.spec {a0 : api_Config} {a1 : List api_Leg} {r : Int × Int} (h : need_by_need_Of_1.f a0 a1 = some r) : FSpec Try.prog 122 [(true, api_Config.D a0), (false, [.l (rowsD api_Leg.D a1)]), (false, [.v (.func (.func 123) #[] #[])])] [.agg (wD r.1), .one (.d (.v (.int .i64 r.2)))] := by
  unfold need_by_need_Of_1.f at h
  refine fspec_data mixed Try.func122 rfl (by decide) [0, 1, 2, 3, 6, 7, 8, 10, 11, 18, 19, 20] (rs := [.cell 6 59, .tmp 7]) rfl (by decide) (n := 47) rfl (by simp) ?_
  try simp (maxSteps := 2000000) only [go_sem, ↓reduceIte, reduceCtorEq, Nat.reduceLT, Nat.reduceLeDiff, Nat.reduceEqDiff, Nat.reduceMul, Nat.reduceAdd, Nat.reduceSub, Int.reduceLE, Int.reduceLT]
  repeat refine And.intro (by first | assumption | (show chk _ _ _ = true; kernel_rfl) | omega | (simp; done)) ?_
  obtain ⟨y1_2, hy1_2, h⟩ := bd h
  refine aCall_of (need_Legs.spec hy1_2) ?_
  try simp (maxSteps := 2000000) only [go_sem, ↓reduceIte, reduceCtorEq, Nat.reduceLT, Nat.reduceLeDiff, Nat.reduceEqDiff, Nat.reduceMul, Nat.reduceAdd, Nat.reduceSub, Int.reduceLE, Int.reduceLT]
  repeat refine And.intro (by first | assumption | (show chk _ _ _ = true; kernel_rfl) | omega | (simp; done)) ?_
  refine kIf_of (fun hb => ?_) (fun hb => ?_)
  · replace h := ifp h (by simpa using hb)
    obtain rfl := Option.some.inj h
    simp (maxSteps := 2000000) only [go_sem, ↓reduceIte, reduceCtorEq, Nat.reduceLT, Nat.reduceLeDiff, Nat.reduceEqDiff, Nat.reduceMul, Nat.reduceAdd, Nat.reduceSub, Int.reduceLE, Int.reduceLT] <;> first | rfl | (repeat (first | refine And.intro (by first | assumption | (show chk _ _ _ = true; kernel_rfl) | omega | (simp; done)) ?_ | rfl | simp only [rowsD_append, rowsD_cons, rowsD_nil, rowsD_set, rowsD_take, rowsD_drop, rowsD_replicate]); done) | (simp only [rowsD_append, rowsD_cons, rowsD_nil, rowsD_set, rowsD_take, rowsD_drop, rowsD_replicate]; done) | (simp only [rowsD_append, rowsD_cons, rowsD_nil, rowsD_set, rowsD_take, rowsD_drop, rowsD_replicate]; rfl)
  · replace h := ifn h (by simpa using hb)
    try simp (maxSteps := 2000000) only [go_sem, ↓reduceIte, reduceCtorEq, Nat.reduceLT, Nat.reduceLeDiff, Nat.reduceEqDiff, Nat.reduceMul, Nat.reduceAdd, Nat.reduceSub, Int.reduceLE, Int.reduceLT]
    repeat refine And.intro (by first | assumption | (show chk _ _ _ = true; kernel_rfl) | omega | (simp; done)) ?_
    obtain ⟨s1, h1, q1⟩ := bd h
    rw [aCode_loop]
    refine aLoop_fx (α := Nat × (List Int) × Int) (fun p => (⟨47, [], [(0, .agg (api_Config.D a0)), (1, .one (.l (rowsD api_Leg.D a1))), (2, .one (.v (.func (.func 123) #[] #[]))), (3, .box [.d (.l (rowsD api_Inst.D a0.Insts)), .d (.v (.int .i64 a0.Skin)), .d (.v (.int .i64 a0.Times)), .d (.v (.int .i64 a0.Port)), .d (.v (.int .i64 a0.Bid)), .d (.v (.int .i64 a0.LotSize)), .d (.v (.int .i64 a0.HedgeMin))]), (6, .box [.d (.v (.int .i64 (wHi 0))), .d (.v (.int .u64 (wLo 0)))]), (7, .one (.v (.int .i64 0))), (8, .own 2 (rowsD wD p.2.1)), (10, .none), (11, .none), (18, .one (.l (rowsD api_Leg.D a1))), (19, .one (.v (.int .i64 (a1.length : Int)))), (20, .one (.v (.int .i64 p.2.2)))]⟩ : S)) (fun p => need_by_need_Of_1.l0 a0 a1 p.1 p.2.1 p.2.2 = some s1) (fun p => p.1) (FUEL, ([] : List Int), 0) h1 ?_ ?_
    · (try simp only [go_sem, rowsD_append, rowsD_cons, rowsD_nil, rowsD_set, rowsD_take, rowsD_drop, rowsD_replicate]) <;> (repeat' first | exact FlexV.nil | exact FlexT.refl _ | exact FlexT.none _ | exact FlexT.frz _ _ | exact FlexT.nil _ | exact FlexB.nil | exact FlexL.refl _ | exact FlexL.nil _ | exact FlexL.frz _ _ | refine FlexV.cons ?_ ?_ | refine FlexT.box ?_ | refine FlexB.cons ?_ ?_ | refine Flex.mk ?_)
    rintro ⟨k1, x8_1, x20_1⟩ h
    simp only at h
    obtain _ | k1 := k1
    · exact absurd h (by simp [need_by_need_Of_1.l0])
    rw [need_by_need_Of_1.l0] at h
    try simp (maxSteps := 2000000) only [go_sem, ↓reduceIte, reduceCtorEq, Nat.reduceLT, Nat.reduceLeDiff, Nat.reduceEqDiff, Nat.reduceMul, Nat.reduceAdd, Nat.reduceSub, Int.reduceLE, Int.reduceLT]
    repeat refine And.intro (by first | assumption | (show chk _ _ _ = true; kernel_rfl) | omega | (simp; done)) ?_
    refine kIf_of (fun hb => ?_) (fun hb => ?_)
    · replace h := ifp h (by simpa using hb)
      obtain ⟨⟨hg6_0_0, hg6_0_1⟩, h⟩ := gd h
      try simp (maxSteps := 2000000) only [go_sem, ↓reduceIte, reduceCtorEq, Nat.reduceLT, Nat.reduceLeDiff, Nat.reduceEqDiff, Nat.reduceMul, Nat.reduceAdd, Nat.reduceSub, Int.reduceLE, Int.reduceLT]
      repeat refine And.intro (by first | assumption | (show chk _ _ _ = true; kernel_rfl) | omega | (simp; done)) ?_
      obtain ⟨y7_3, hy7_3, h⟩ := bd h
      refine aCall_of (amount_Size.spec hy7_3) ?_
      obtain ⟨⟨hg7_10_0, hg7_10_1⟩, h⟩ := gd h
      try simp (maxSteps := 2000000) only [go_sem, ↓reduceIte, reduceCtorEq, Nat.reduceLT, Nat.reduceLeDiff, Nat.reduceEqDiff, Nat.reduceMul, Nat.reduceAdd, Nat.reduceSub, Int.reduceLE, Int.reduceLT]
      repeat refine And.intro (by first | assumption | (show chk _ _ _ = true; kernel_rfl) | omega | (simp; done)) ?_
      obtain ⟨y7_12, hy7_12, h⟩ := bd h
      have e := need_Of_1.spec hy7_12
      simp only [go_sem, rowsD_append, rowsD_cons, rowsD_nil, rowsD_set, rowsD_take, rowsD_drop, rowsD_replicate] at e
      refine aCall_of e ?_
      try simp (maxSteps := 2000000) only [go_sem, ↓reduceIte, reduceCtorEq, Nat.reduceLT, Nat.reduceLeDiff, Nat.reduceEqDiff, Nat.reduceMul, Nat.reduceAdd, Nat.reduceSub, Int.reduceLE, Int.reduceLT]
      repeat refine And.intro (by first | assumption | (show chk _ _ _ = true; kernel_rfl) | omega | (simp; done)) ?_
      obtain ⟨y7_13, hy7_13, h⟩ := bd h
      refine aCall_of (wide_Mul.spec hy7_13) ?_
      obtain ⟨hg7_15, h⟩ := gd h
      try simp (maxSteps := 2000000) only [go_sem, ↓reduceIte, reduceCtorEq, Nat.reduceLT, Nat.reduceLeDiff, Nat.reduceEqDiff, Nat.reduceMul, Nat.reduceAdd, Nat.reduceSub, Int.reduceLE, Int.reduceLT]
      repeat refine And.intro (by first | assumption | (show chk _ _ _ = true; kernel_rfl) | omega | (simp; done)) ?_
      refine Round.fx (k1, x8_1 ++ ([y7_13]), IntKind.i64.wrap (x20_1 + 1)) h (Nat.lt_succ_self k1) ?_
      (try simp only [go_sem, rowsD_append, rowsD_cons, rowsD_nil, rowsD_set, rowsD_take, rowsD_drop, rowsD_replicate]) <;> (repeat' first | exact FlexV.nil | exact FlexT.refl _ | exact FlexT.none _ | exact FlexT.frz _ _ | exact FlexT.nil _ | exact FlexB.nil | exact FlexL.refl _ | exact FlexL.nil _ | exact FlexL.frz _ _ | refine FlexV.cons ?_ ?_ | refine FlexT.box ?_ | refine FlexB.cons ?_ ?_ | refine Flex.mk ?_)
    · replace h := ifn h (by simpa using hb)
      obtain rfl := Option.some.inj h
      have h := q1
      try dsimp only at h
      try simp (maxSteps := 2000000) only [go_sem, ↓reduceIte, reduceCtorEq, Nat.reduceLT, Nat.reduceLeDiff, Nat.reduceEqDiff, Nat.reduceMul, Nat.reduceAdd, Nat.reduceSub, Int.reduceLE, Int.reduceLT]
      repeat refine And.intro (by first | assumption | (show chk _ _ _ = true; kernel_rfl) | omega | (simp; done)) ?_
      obtain ⟨y9_1, hy9_1, h⟩ := bd h
      refine aCall_of (wide_Sum.spec hy9_1) ?_
      obtain rfl := Option.some.inj h
      simp (maxSteps := 2000000) only [go_sem, ↓reduceIte, reduceCtorEq, Nat.reduceLT, Nat.reduceLeDiff, Nat.reduceEqDiff, Nat.reduceMul, Nat.reduceAdd, Nat.reduceSub, Int.reduceLE, Int.reduceLT] <;> first | rfl | (repeat (first | refine And.intro (by first | assumption | (show chk _ _ _ = true; kernel_rfl) | omega | (simp; done)) ?_ | rfl | simp only [rowsD_append, rowsD_cons, rowsD_nil, rowsD_set, rowsD_take, rowsD_drop, rowsD_replicate]); done) | (simp only [rowsD_append, rowsD_cons, rowsD_nil, rowsD_set, rowsD_take, rowsD_drop, rowsD_replicate]; done) | (simp only [rowsD_append, rowsD_cons, rowsD_nil, rowsD_set, rowsD_take, rowsD_drop, rowsD_replicate]; rfl)
end Go.Ax

/- The walk of need_Of, printed by gen.py. -/
set_option linter.unusedSimpArgs false
set_option linter.unusedVariables false
namespace Go.Ax
open Go Go.Proofs
set_option maxRecDepth 100000
set_option maxHeartbeats 4000000
theorem need_Of.spec {a0 : api_Config} {a1 : List api_Leg} {r : Int × Int} (h : need_Of.f a0 a1 = some r) : FSpec Try.prog 84 [(true, api_Config.D a0), (false, [.l (rowsD api_Leg.D a1)])] [.agg (wD r.1), .one (.d (.v (.int .i64 r.2)))] := by
  unfold need_Of.f at h
  refine fspec_data mixed Try.func84 rfl (by decide) [0, 1, 2, 4, 5] (rs := [.cell 4 59, .tmp 5]) rfl (by decide) (n := 11) rfl (by simp) ?_
  try simp (maxSteps := 2000000) only [go_sem, ↓reduceIte, reduceCtorEq, Nat.reduceLT, Nat.reduceLeDiff, Nat.reduceEqDiff, Nat.reduceMul, Nat.reduceAdd, Nat.reduceSub, Int.reduceLE, Int.reduceLT]
  repeat refine And.intro (by first | assumption | (show chk _ _ _ = true; kernel_rfl) | omega | (simp; done)) ?_
  obtain ⟨y1_2, hy1_2, h⟩ := bd h
  refine aCall_of (need_by_need_Of_1.spec hy1_2) ?_
  obtain rfl := Option.some.inj h
  simp (maxSteps := 2000000) only [go_sem, ↓reduceIte, reduceCtorEq, Nat.reduceLT, Nat.reduceLeDiff, Nat.reduceEqDiff, Nat.reduceMul, Nat.reduceAdd, Nat.reduceSub, Int.reduceLE, Int.reduceLT] <;> first | rfl | (repeat (first | refine And.intro (by first | assumption | (show chk _ _ _ = true; kernel_rfl) | omega | (simp; done)) ?_ | rfl | simp only [rowsD_append, rowsD_cons, rowsD_nil, rowsD_set, rowsD_take, rowsD_drop, rowsD_replicate]); done) | (simp only [rowsD_append, rowsD_cons, rowsD_nil, rowsD_set, rowsD_take, rowsD_drop, rowsD_replicate]; done) | (simp only [rowsD_append, rowsD_cons, rowsD_nil, rowsD_set, rowsD_take, rowsD_drop, rowsD_replicate]; rfl)
end Go.Ax

/- The walk of need_Slip_1, printed by gen.py. -/
set_option linter.unusedSimpArgs false
set_option linter.unusedVariables false
namespace Go.Ax
open Go Go.Proofs
set_option maxRecDepth 100000
set_option maxHeartbeats 4000000
theorem need_Slip_1.spec {a0 : api_Inst} {r : Int} (h : need_Slip_1.f a0 = some r) : FSpec Try.prog 124 [(true, api_Inst.D a0)] [.one (.d (.v (.int .i64 r)))] := by
  unfold need_Slip_1.f at h
  refine fspec_data mixed Try.func124 rfl (by decide) [0, 1, 2] (rs := [.tmp 2]) rfl (by decide) (n := 5) rfl (by simp) ?_
  obtain rfl := Option.some.inj h
  simp (maxSteps := 2000000) only [go_sem, ↓reduceIte, reduceCtorEq, Nat.reduceLT, Nat.reduceLeDiff, Nat.reduceEqDiff, Nat.reduceMul, Nat.reduceAdd, Nat.reduceSub, Int.reduceLE, Int.reduceLT] <;> first | rfl | (repeat (first | refine And.intro (by first | assumption | (show chk _ _ _ = true; kernel_rfl) | omega | (simp; done)) ?_ | rfl | simp only [rowsD_append, rowsD_cons, rowsD_nil, rowsD_set, rowsD_take, rowsD_drop, rowsD_replicate]); done) | (simp only [rowsD_append, rowsD_cons, rowsD_nil, rowsD_set, rowsD_take, rowsD_drop, rowsD_replicate]; done) | (simp only [rowsD_append, rowsD_cons, rowsD_nil, rowsD_set, rowsD_take, rowsD_drop, rowsD_replicate]; rfl)
end Go.Ax

/- The walk of need_by_need_Slip_1, printed by gen.py. -/
set_option linter.unusedSimpArgs false
set_option linter.unusedVariables false
namespace Go.Ax
open Go Go.Proofs
set_option maxRecDepth 100000
set_option maxHeartbeats 4000000
theorem need_by_need_Slip_1.spec {a0 : api_Config} {a1 : List api_Leg} {r : Int × Int} (h : need_by_need_Slip_1.f a0 a1 = some r) : FSpec Try.prog 122 [(true, api_Config.D a0), (false, [.l (rowsD api_Leg.D a1)]), (false, [.v (.func (.func 124) #[] #[])])] [.agg (wD r.1), .one (.d (.v (.int .i64 r.2)))] := by
  unfold need_by_need_Slip_1.f at h
  refine fspec_data mixed Try.func122 rfl (by decide) [0, 1, 2, 3, 6, 7, 8, 10, 11, 18, 19, 20] (rs := [.cell 6 59, .tmp 7]) rfl (by decide) (n := 47) rfl (by simp) ?_
  try simp (maxSteps := 2000000) only [go_sem, ↓reduceIte, reduceCtorEq, Nat.reduceLT, Nat.reduceLeDiff, Nat.reduceEqDiff, Nat.reduceMul, Nat.reduceAdd, Nat.reduceSub, Int.reduceLE, Int.reduceLT]
  repeat refine And.intro (by first | assumption | (show chk _ _ _ = true; kernel_rfl) | omega | (simp; done)) ?_
  obtain ⟨y1_2, hy1_2, h⟩ := bd h
  refine aCall_of (need_Legs.spec hy1_2) ?_
  try simp (maxSteps := 2000000) only [go_sem, ↓reduceIte, reduceCtorEq, Nat.reduceLT, Nat.reduceLeDiff, Nat.reduceEqDiff, Nat.reduceMul, Nat.reduceAdd, Nat.reduceSub, Int.reduceLE, Int.reduceLT]
  repeat refine And.intro (by first | assumption | (show chk _ _ _ = true; kernel_rfl) | omega | (simp; done)) ?_
  refine kIf_of (fun hb => ?_) (fun hb => ?_)
  · replace h := ifp h (by simpa using hb)
    obtain rfl := Option.some.inj h
    simp (maxSteps := 2000000) only [go_sem, ↓reduceIte, reduceCtorEq, Nat.reduceLT, Nat.reduceLeDiff, Nat.reduceEqDiff, Nat.reduceMul, Nat.reduceAdd, Nat.reduceSub, Int.reduceLE, Int.reduceLT] <;> first | rfl | (repeat (first | refine And.intro (by first | assumption | (show chk _ _ _ = true; kernel_rfl) | omega | (simp; done)) ?_ | rfl | simp only [rowsD_append, rowsD_cons, rowsD_nil, rowsD_set, rowsD_take, rowsD_drop, rowsD_replicate]); done) | (simp only [rowsD_append, rowsD_cons, rowsD_nil, rowsD_set, rowsD_take, rowsD_drop, rowsD_replicate]; done) | (simp only [rowsD_append, rowsD_cons, rowsD_nil, rowsD_set, rowsD_take, rowsD_drop, rowsD_replicate]; rfl)
  · replace h := ifn h (by simpa using hb)
    try simp (maxSteps := 2000000) only [go_sem, ↓reduceIte, reduceCtorEq, Nat.reduceLT, Nat.reduceLeDiff, Nat.reduceEqDiff, Nat.reduceMul, Nat.reduceAdd, Nat.reduceSub, Int.reduceLE, Int.reduceLT]
    repeat refine And.intro (by first | assumption | (show chk _ _ _ = true; kernel_rfl) | omega | (simp; done)) ?_
    obtain ⟨s1, h1, q1⟩ := bd h
    rw [aCode_loop]
    refine aLoop_fx (α := Nat × (List Int) × Int) (fun p => (⟨47, [], [(0, .agg (api_Config.D a0)), (1, .one (.l (rowsD api_Leg.D a1))), (2, .one (.v (.func (.func 124) #[] #[]))), (3, .box [.d (.l (rowsD api_Inst.D a0.Insts)), .d (.v (.int .i64 a0.Skin)), .d (.v (.int .i64 a0.Times)), .d (.v (.int .i64 a0.Port)), .d (.v (.int .i64 a0.Bid)), .d (.v (.int .i64 a0.LotSize)), .d (.v (.int .i64 a0.HedgeMin))]), (6, .box [.d (.v (.int .i64 (wHi 0))), .d (.v (.int .u64 (wLo 0)))]), (7, .one (.v (.int .i64 0))), (8, .own 2 (rowsD wD p.2.1)), (10, .none), (11, .none), (18, .one (.l (rowsD api_Leg.D a1))), (19, .one (.v (.int .i64 (a1.length : Int)))), (20, .one (.v (.int .i64 p.2.2)))]⟩ : S)) (fun p => need_by_need_Slip_1.l0 a0 a1 p.1 p.2.1 p.2.2 = some s1) (fun p => p.1) (FUEL, ([] : List Int), 0) h1 ?_ ?_
    · (try simp only [go_sem, rowsD_append, rowsD_cons, rowsD_nil, rowsD_set, rowsD_take, rowsD_drop, rowsD_replicate]) <;> (repeat' first | exact FlexV.nil | exact FlexT.refl _ | exact FlexT.none _ | exact FlexT.frz _ _ | exact FlexT.nil _ | exact FlexB.nil | exact FlexL.refl _ | exact FlexL.nil _ | exact FlexL.frz _ _ | refine FlexV.cons ?_ ?_ | refine FlexT.box ?_ | refine FlexB.cons ?_ ?_ | refine Flex.mk ?_)
    rintro ⟨k1, x8_1, x20_1⟩ h
    simp only at h
    obtain _ | k1 := k1
    · exact absurd h (by simp [need_by_need_Slip_1.l0])
    rw [need_by_need_Slip_1.l0] at h
    try simp (maxSteps := 2000000) only [go_sem, ↓reduceIte, reduceCtorEq, Nat.reduceLT, Nat.reduceLeDiff, Nat.reduceEqDiff, Nat.reduceMul, Nat.reduceAdd, Nat.reduceSub, Int.reduceLE, Int.reduceLT]
    repeat refine And.intro (by first | assumption | (show chk _ _ _ = true; kernel_rfl) | omega | (simp; done)) ?_
    refine kIf_of (fun hb => ?_) (fun hb => ?_)
    · replace h := ifp h (by simpa using hb)
      obtain ⟨⟨hg6_0_0, hg6_0_1⟩, h⟩ := gd h
      try simp (maxSteps := 2000000) only [go_sem, ↓reduceIte, reduceCtorEq, Nat.reduceLT, Nat.reduceLeDiff, Nat.reduceEqDiff, Nat.reduceMul, Nat.reduceAdd, Nat.reduceSub, Int.reduceLE, Int.reduceLT]
      repeat refine And.intro (by first | assumption | (show chk _ _ _ = true; kernel_rfl) | omega | (simp; done)) ?_
      obtain ⟨y7_3, hy7_3, h⟩ := bd h
      refine aCall_of (amount_Size.spec hy7_3) ?_
      obtain ⟨⟨hg7_10_0, hg7_10_1⟩, h⟩ := gd h
      try simp (maxSteps := 2000000) only [go_sem, ↓reduceIte, reduceCtorEq, Nat.reduceLT, Nat.reduceLeDiff, Nat.reduceEqDiff, Nat.reduceMul, Nat.reduceAdd, Nat.reduceSub, Int.reduceLE, Int.reduceLT]
      repeat refine And.intro (by first | assumption | (show chk _ _ _ = true; kernel_rfl) | omega | (simp; done)) ?_
      obtain ⟨y7_12, hy7_12, h⟩ := bd h
      have e := need_Slip_1.spec hy7_12
      simp only [go_sem, rowsD_append, rowsD_cons, rowsD_nil, rowsD_set, rowsD_take, rowsD_drop, rowsD_replicate] at e
      refine aCall_of e ?_
      try simp (maxSteps := 2000000) only [go_sem, ↓reduceIte, reduceCtorEq, Nat.reduceLT, Nat.reduceLeDiff, Nat.reduceEqDiff, Nat.reduceMul, Nat.reduceAdd, Nat.reduceSub, Int.reduceLE, Int.reduceLT]
      repeat refine And.intro (by first | assumption | (show chk _ _ _ = true; kernel_rfl) | omega | (simp; done)) ?_
      obtain ⟨y7_13, hy7_13, h⟩ := bd h
      refine aCall_of (wide_Mul.spec hy7_13) ?_
      obtain ⟨hg7_15, h⟩ := gd h
      try simp (maxSteps := 2000000) only [go_sem, ↓reduceIte, reduceCtorEq, Nat.reduceLT, Nat.reduceLeDiff, Nat.reduceEqDiff, Nat.reduceMul, Nat.reduceAdd, Nat.reduceSub, Int.reduceLE, Int.reduceLT]
      repeat refine And.intro (by first | assumption | (show chk _ _ _ = true; kernel_rfl) | omega | (simp; done)) ?_
      refine Round.fx (k1, x8_1 ++ ([y7_13]), IntKind.i64.wrap (x20_1 + 1)) h (Nat.lt_succ_self k1) ?_
      (try simp only [go_sem, rowsD_append, rowsD_cons, rowsD_nil, rowsD_set, rowsD_take, rowsD_drop, rowsD_replicate]) <;> (repeat' first | exact FlexV.nil | exact FlexT.refl _ | exact FlexT.none _ | exact FlexT.frz _ _ | exact FlexT.nil _ | exact FlexB.nil | exact FlexL.refl _ | exact FlexL.nil _ | exact FlexL.frz _ _ | refine FlexV.cons ?_ ?_ | refine FlexT.box ?_ | refine FlexB.cons ?_ ?_ | refine Flex.mk ?_)
    · replace h := ifn h (by simpa using hb)
      obtain rfl := Option.some.inj h
      have h := q1
      try dsimp only at h
      try simp (maxSteps := 2000000) only [go_sem, ↓reduceIte, reduceCtorEq, Nat.reduceLT, Nat.reduceLeDiff, Nat.reduceEqDiff, Nat.reduceMul, Nat.reduceAdd, Nat.reduceSub, Int.reduceLE, Int.reduceLT]
      repeat refine And.intro (by first | assumption | (show chk _ _ _ = true; kernel_rfl) | omega | (simp; done)) ?_
      obtain ⟨y9_1, hy9_1, h⟩ := bd h
      refine aCall_of (wide_Sum.spec hy9_1) ?_
      obtain rfl := Option.some.inj h
      simp (maxSteps := 2000000) only [go_sem, ↓reduceIte, reduceCtorEq, Nat.reduceLT, Nat.reduceLeDiff, Nat.reduceEqDiff, Nat.reduceMul, Nat.reduceAdd, Nat.reduceSub, Int.reduceLE, Int.reduceLT] <;> first | rfl | (repeat (first | refine And.intro (by first | assumption | (show chk _ _ _ = true; kernel_rfl) | omega | (simp; done)) ?_ | rfl | simp only [rowsD_append, rowsD_cons, rowsD_nil, rowsD_set, rowsD_take, rowsD_drop, rowsD_replicate]); done) | (simp only [rowsD_append, rowsD_cons, rowsD_nil, rowsD_set, rowsD_take, rowsD_drop, rowsD_replicate]; done) | (simp only [rowsD_append, rowsD_cons, rowsD_nil, rowsD_set, rowsD_take, rowsD_drop, rowsD_replicate]; rfl)
end Go.Ax

/- The walk of need_Slip, printed by gen.py. -/
set_option linter.unusedSimpArgs false
set_option linter.unusedVariables false
namespace Go.Ax
open Go Go.Proofs
set_option maxRecDepth 100000
set_option maxHeartbeats 4000000
theorem need_Slip.spec {a0 : api_Config} {a1 : List api_Leg} {r : Int × Int} (h : need_Slip.f a0 a1 = some r) : FSpec Try.prog 85 [(true, api_Config.D a0), (false, [.l (rowsD api_Leg.D a1)])] [.agg (wD r.1), .one (.d (.v (.int .i64 r.2)))] := by
  unfold need_Slip.f at h
  refine fspec_data mixed Try.func85 rfl (by decide) [0, 1, 2, 4, 5] (rs := [.cell 4 59, .tmp 5]) rfl (by decide) (n := 11) rfl (by simp) ?_
  try simp (maxSteps := 2000000) only [go_sem, ↓reduceIte, reduceCtorEq, Nat.reduceLT, Nat.reduceLeDiff, Nat.reduceEqDiff, Nat.reduceMul, Nat.reduceAdd, Nat.reduceSub, Int.reduceLE, Int.reduceLT]
  repeat refine And.intro (by first | assumption | (show chk _ _ _ = true; kernel_rfl) | omega | (simp; done)) ?_
  obtain ⟨y1_2, hy1_2, h⟩ := bd h
  refine aCall_of (need_by_need_Slip_1.spec hy1_2) ?_
  obtain rfl := Option.some.inj h
  simp (maxSteps := 2000000) only [go_sem, ↓reduceIte, reduceCtorEq, Nat.reduceLT, Nat.reduceLeDiff, Nat.reduceEqDiff, Nat.reduceMul, Nat.reduceAdd, Nat.reduceSub, Int.reduceLE, Int.reduceLT] <;> first | rfl | (repeat (first | refine And.intro (by first | assumption | (show chk _ _ _ = true; kernel_rfl) | omega | (simp; done)) ?_ | rfl | simp only [rowsD_append, rowsD_cons, rowsD_nil, rowsD_set, rowsD_take, rowsD_drop, rowsD_replicate]); done) | (simp only [rowsD_append, rowsD_cons, rowsD_nil, rowsD_set, rowsD_take, rowsD_drop, rowsD_replicate]; done) | (simp only [rowsD_append, rowsD_cons, rowsD_nil, rowsD_set, rowsD_take, rowsD_drop, rowsD_replicate]; rfl)
end Go.Ax

/- The walk of novationref4_within, printed by gen.py. -/
set_option linter.unusedSimpArgs false
set_option linter.unusedVariables false
namespace Go.Ax
open Go Go.Proofs
set_option maxRecDepth 100000
set_option maxHeartbeats 4000000
theorem novationref4_within.spec {a0 : Int} {a1 : Int} {a2 : Int} {r : Bool} (h : novationref4_within.f a0 a1 a2 = some r) : FSpec Try.prog 145 [(false, [.v (.int .i64 a0)]), (false, [.v (.int .i64 a1)]), (false, [.v (.int .i64 a2)])] [.one (.d (.v (.bool r)))] := by
  unfold novationref4_within.f at h
  refine fspec_data mixed Try.func145 rfl (by decide) [0, 1, 2, 6] (rs := [.tmp 6]) rfl (by decide) (n := 15) rfl (by simp) ?_
  try simp (maxSteps := 2000000) only [go_sem, ↓reduceIte, reduceCtorEq, Nat.reduceLT, Nat.reduceLeDiff, Nat.reduceEqDiff, Nat.reduceMul, Nat.reduceAdd, Nat.reduceSub, Int.reduceLE, Int.reduceLT]
  repeat refine And.intro (by first | assumption | (show chk _ _ _ = true; kernel_rfl) | omega | (simp; done)) ?_
  refine kIf_of (fun hb => ?_) (fun hb => ?_)
  · replace h := ifp h (by simpa using hb)
    obtain rfl := Option.some.inj h
    simp (maxSteps := 2000000) only [go_sem, ↓reduceIte, reduceCtorEq, Nat.reduceLT, Nat.reduceLeDiff, Nat.reduceEqDiff, Nat.reduceMul, Nat.reduceAdd, Nat.reduceSub, Int.reduceLE, Int.reduceLT] <;> first | rfl | (repeat (first | refine And.intro (by first | assumption | (show chk _ _ _ = true; kernel_rfl) | omega | (simp; done)) ?_ | rfl | simp only [rowsD_append, rowsD_cons, rowsD_nil, rowsD_set, rowsD_take, rowsD_drop, rowsD_replicate]); done) | (simp only [rowsD_append, rowsD_cons, rowsD_nil, rowsD_set, rowsD_take, rowsD_drop, rowsD_replicate]; done) | (simp only [rowsD_append, rowsD_cons, rowsD_nil, rowsD_set, rowsD_take, rowsD_drop, rowsD_replicate]; rfl)
  · replace h := ifn h (by simpa using hb)
    obtain rfl := Option.some.inj h
    simp (maxSteps := 2000000) only [go_sem, ↓reduceIte, reduceCtorEq, Nat.reduceLT, Nat.reduceLeDiff, Nat.reduceEqDiff, Nat.reduceMul, Nat.reduceAdd, Nat.reduceSub, Int.reduceLE, Int.reduceLT] <;> first | rfl | (repeat (first | refine And.intro (by first | assumption | (show chk _ _ _ = true; kernel_rfl) | omega | (simp; done)) ?_ | rfl | simp only [rowsD_append, rowsD_cons, rowsD_nil, rowsD_set, rowsD_take, rowsD_drop, rowsD_replicate]); done) | (simp only [rowsD_append, rowsD_cons, rowsD_nil, rowsD_set, rowsD_take, rowsD_drop, rowsD_replicate]; done) | (simp only [rowsD_append, rowsD_cons, rowsD_nil, rowsD_set, rowsD_take, rowsD_drop, rowsD_replicate]; rfl)
end Go.Ax
