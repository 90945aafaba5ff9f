/- The walk of novationref15_Gains, printed by gen.py. -/
import Derived.Test.YtmpbhgofllbejaaGa
import Derived.Test.YtmpbhgofllbejaaGs
import Derived.Test.YtmpbhgofllbejaaWd
import Derived.Test.YtmpbhgofllbejaaWb
import Derived.Test.YtmpbhgofllbejaaWa
import Derived.Test.YtmpbhgofllbejaaWc
set_option linter.unusedVariables false
set_option linter.unusedSimpArgs false
set_option linter.unusedSimpArgs false
set_option linter.unusedVariables false
namespace Go.Ax
open Go Go.Proofs
set_option maxRecDepth 100000
set_option maxHeartbeats 4000000
theorem novationref15_Gains.spec {a0 : List api_Gain} {a1 : List novationref10_Part} {r : (List api_Gain) × Int} (h : novationref15_Gains.f a0 a1 = some r) : FSpec Try.prog 19 [(false, [.l (rowsD api_Gain.D a0)]), (false, [.l (rowsD novationref10_Part.D a1)])] [.one (.d (.l (rowsD api_Gain.D r.1))), .one (.d (.v (.int .i64 r.2)))] := by
  unfold novationref15_Gains.f at h
  refine fspec_data mixed Try.func19 rfl (by decide) [0, 1, 4, 5, 6, 7, 8, 9, 10, 11, 12] (rs := [.tmp 4, .tmp 5]) rfl (by decide) (n := 84) rfl (by simp) ?_
  try simp (maxSteps := 2000000) only [go_sem, ↓reduceIte, reduceCtorEq, Nat.reduceLT, Nat.reduceLeDiff, Nat.reduceEqDiff, Nat.reduceMul, Nat.reduceAdd, Nat.reduceSub, Int.reduceLE, Int.reduceLT]
  repeat refine And.intro (by first | assumption | (show chk _ _ _ = true; kernel_rfl) | omega | (simp; done)) ?_
  obtain ⟨y2_1, hy2_1, h⟩ := bd h
  refine aCall_of (novationref15_RightGains.spec hy2_1) ?_
  try simp (maxSteps := 2000000) only [go_sem, ↓reduceIte, reduceCtorEq, Nat.reduceLT, Nat.reduceLeDiff, Nat.reduceEqDiff, Nat.reduceMul, Nat.reduceAdd, Nat.reduceSub, Int.reduceLE, Int.reduceLT]
  repeat refine And.intro (by first | assumption | (show chk _ _ _ = true; kernel_rfl) | omega | (simp; done)) ?_
  refine kIf_of (fun hb => ?_) (fun hb => ?_)
  · replace h := ifp h (by first | (simpa using hb) | (simp at hb ⊢; grind))
    obtain rfl := Option.some.inj h
    simp (maxSteps := 2000000) only [go_sem, ↓reduceIte, reduceCtorEq, Nat.reduceLT, Nat.reduceLeDiff, Nat.reduceEqDiff, Nat.reduceMul, Nat.reduceAdd, Nat.reduceSub, Int.reduceLE, Int.reduceLT] <;> first | rfl | ((repeat (first | refine And.intro (by first | assumption | (show chk _ _ _ = true; kernel_rfl) | omega | (simp; done)) ?_ | rfl | simp only [rowsD_append, rowsD_cons, rowsD_nil, rowsD_set, rowsD_take, rowsD_drop, rowsD_replicate])); done) | (simp only [rowsD_append, rowsD_cons, rowsD_nil, rowsD_set, rowsD_take, rowsD_drop, rowsD_replicate]; done) | (simp only [rowsD_append, rowsD_cons, rowsD_nil, rowsD_set, rowsD_take, rowsD_drop, rowsD_replicate]; rfl)
  · replace h := ifn h (by first | (simpa using hb) | (simp at hb ⊢; grind))
    try simp (maxSteps := 2000000) only [go_sem, ↓reduceIte, reduceCtorEq, Nat.reduceLT, Nat.reduceLeDiff, Nat.reduceEqDiff, Nat.reduceMul, Nat.reduceAdd, Nat.reduceSub, Int.reduceLE, Int.reduceLT]
    repeat refine And.intro (by first | assumption | (show chk _ _ _ = true; kernel_rfl) | omega | (simp; done)) ?_
    obtain ⟨f1, h1, q1⟩ := bd h
    rw [aCode_loop]
    refine aLoop_fx (α := Nat × (List api_Gain) × Int) (fun p => (⟨84, [], [(0, .one (.l (rowsD api_Gain.D a0))), (1, .one (.l (rowsD novationref10_Part.D a1))), (4, .own 2 (rowsD api_Gain.D ([] : List api_Gain))), (5, .one (.v (.int .i64 0))), (6, .own 2 (rowsD api_Gain.D p.2.1)), (7, .one (.v (.int .i64 p.2.2))), (8, .none), (9, .none), (10, .none), (11, .none), (12, .none)]⟩ : S)) (fun p => novationref15_Gains.l0 a0 a1 p.1 p.2.1 p.2.2 = some f1) (fun p => p.1) (FUEL, ([] : List api_Gain), 1) h1 ?_ ?_
    · (try simp only [go_sem, List.map_set, rowsD_append, rowsD_cons, rowsD_nil, rowsD_set, rowsD_take, rowsD_drop, rowsD_replicate]) <;> (repeat' first | exact FlexV.nil | exact FlexT.refl _ | exact FlexT.none _ | exact FlexT.frz _ _ | exact FlexT.nil _ | exact FlexB.nil | exact FlexL.refl _ | exact FlexL.nil _ | exact FlexL.frz _ _ | refine FlexV.cons ?_ ?_ | refine FlexT.box ?_ | refine FlexB.cons ?_ ?_ | refine Flex.mk ?_)
    rintro ⟨k1, x6_1, x7_1⟩ h
    simp only at h
    obtain _ | k1 := k1
    · exact absurd h (by simp [novationref15_Gains.l0])
    rw [novationref15_Gains.l0] at h
    try simp (maxSteps := 2000000) only [go_sem, ↓reduceIte, reduceCtorEq, Nat.reduceLT, Nat.reduceLeDiff, Nat.reduceEqDiff, Nat.reduceMul, Nat.reduceAdd, Nat.reduceSub, Int.reduceLE, Int.reduceLT]
    repeat refine And.intro (by first | assumption | (show chk _ _ _ = true; kernel_rfl) | omega | (simp; done)) ?_
    refine kIf_of (fun hb => ?_) (fun hb => ?_)
    · replace h := ifp h (by first | (simpa using hb) | (simp at hb ⊢; grind))
      try simp (maxSteps := 2000000) only [go_sem, ↓reduceIte, reduceCtorEq, Nat.reduceLT, Nat.reduceLeDiff, Nat.reduceEqDiff, Nat.reduceMul, Nat.reduceAdd, Nat.reduceSub, Int.reduceLE, Int.reduceLT]
      repeat refine And.intro (by first | assumption | (show chk _ _ _ = true; kernel_rfl) | omega | (simp; done)) ?_
      obtain ⟨s3, h3, q3⟩ := bd h
      rw [aCode_loop]
      refine aLoop_fx (α := Nat × Int × Int) (fun p => (⟨84, [], [(0, .one (.l (rowsD api_Gain.D a0))), (1, .one (.l (rowsD novationref10_Part.D a1))), (4, .own 2 (rowsD api_Gain.D ([] : List api_Gain))), (5, .one (.v (.int .i64 0))), (6, .own 2 (rowsD api_Gain.D x6_1)), (7, .one (.v (.int .i64 x7_1))), (8, .box [.d (.v (.bool (decide ((p.2.1 : Int) < 0)))), .d (.l (rowsU (digs (p.2.1 : Int).natAbs)))]), (9, .one (.v (.int .i64 p.2.2))), (10, .none), (11, .none), (12, .none)]⟩ : S)) (fun p => novationref15_Gains.l1 a0 x7_1 p.1 p.2.1 p.2.2 = some s3) (fun p => p.1) (FUEL, 0, 0) h3 ?_ ?_
      · (try simp only [go_sem, List.map_set, rowsD_append, rowsD_cons, rowsD_nil, rowsD_set, rowsD_take, rowsD_drop, rowsD_replicate]) <;> (repeat' first | exact FlexV.nil | exact FlexT.refl _ | exact FlexT.none _ | exact FlexT.frz _ _ | exact FlexT.nil _ | exact FlexB.nil | exact FlexL.refl _ | exact FlexL.nil _ | exact FlexL.frz _ _ | refine FlexV.cons ?_ ?_ | refine FlexT.box ?_ | refine FlexB.cons ?_ ?_ | refine Flex.mk ?_)
      rintro ⟨k3, x8_3, x9_3⟩ h
      simp only at h
      obtain _ | k3 := k3
      · exact absurd h (by simp [novationref15_Gains.l1])
      rw [novationref15_Gains.l1] at h
      try simp (maxSteps := 2000000) only [go_sem, ↓reduceIte, reduceCtorEq, Nat.reduceLT, Nat.reduceLeDiff, Nat.reduceEqDiff, Nat.reduceMul, Nat.reduceAdd, Nat.reduceSub, Int.reduceLE, Int.reduceLT]
      repeat refine And.intro (by first | assumption | (show chk _ _ _ = true; kernel_rfl) | omega | (simp; done)) ?_
      refine kIf_of (fun hb => ?_) (fun hb => ?_)
      · replace h := ifp h (by first | (simpa using hb) | (simp at hb ⊢; grind))
        obtain ⟨⟨hg11_2_0, hg11_2_1⟩, h⟩ := gd h
        try simp (maxSteps := 2000000) only [go_sem, ↓reduceIte, reduceCtorEq, Nat.reduceLT, Nat.reduceLeDiff, Nat.reduceEqDiff, Nat.reduceMul, Nat.reduceAdd, Nat.reduceSub, Int.reduceLE, Int.reduceLT]
        repeat refine And.intro (by first | assumption | (show chk _ _ _ = true; kernel_rfl) | omega | (simp; done)) ?_
        refine kIf_of (fun hb => ?_) (fun hb => ?_)
        · replace h := ifp h (by first | (simpa using hb) | (simp at hb ⊢; grind))
          try simp (maxSteps := 2000000) only [go_sem, ↓reduceIte, reduceCtorEq, Nat.reduceLT, Nat.reduceLeDiff, Nat.reduceEqDiff, Nat.reduceMul, Nat.reduceAdd, Nat.reduceSub, Int.reduceLE, Int.reduceLT]
          repeat refine And.intro (by first | assumption | (show chk _ _ _ = true; kernel_rfl) | omega | (simp; done)) ?_
          obtain ⟨y12_5, hy12_5, h⟩ := bd h
          refine aCall_of (novationref1_Whole.spec hy12_5) ?_
          try simp (maxSteps := 2000000) only [go_sem, ↓reduceIte, reduceCtorEq, Nat.reduceLT, Nat.reduceLeDiff, Nat.reduceEqDiff, Nat.reduceMul, Nat.reduceAdd, Nat.reduceSub, Int.reduceLE, Int.reduceLT]
          repeat refine And.intro (by first | assumption | (show chk _ _ _ = true; kernel_rfl) | omega | (simp; done)) ?_
          refine Round.fx (k3, y12_5, IntKind.i64.wrap (x9_3 + 1)) h (Nat.lt_succ_self k3) ?_
          (try simp only [go_sem, List.map_set, rowsD_append, rowsD_cons, rowsD_nil, rowsD_set, rowsD_take, rowsD_drop, rowsD_replicate]) <;> (repeat' first | exact FlexV.nil | exact FlexT.refl _ | exact FlexT.none _ | exact FlexT.frz _ _ | exact FlexT.nil _ | exact FlexB.nil | exact FlexL.refl _ | exact FlexL.nil _ | exact FlexL.frz _ _ | refine FlexV.cons ?_ ?_ | refine FlexT.box ?_ | refine FlexB.cons ?_ ?_ | refine Flex.mk ?_)
        · replace h := ifn h (by first | (simpa using hb) | (simp at hb ⊢; grind))
          try simp (maxSteps := 2000000) only [go_sem, ↓reduceIte, reduceCtorEq, Nat.reduceLT, Nat.reduceLeDiff, Nat.reduceEqDiff, Nat.reduceMul, Nat.reduceAdd, Nat.reduceSub, Int.reduceLE, Int.reduceLT]
          repeat refine And.intro (by first | assumption | (show chk _ _ _ = true; kernel_rfl) | omega | (simp; done)) ?_
          refine Round.fx (k3, x8_3, IntKind.i64.wrap (x9_3 + 1)) h (Nat.lt_succ_self k3) ?_
          (try simp only [go_sem, List.map_set, rowsD_append, rowsD_cons, rowsD_nil, rowsD_set, rowsD_take, rowsD_drop, rowsD_replicate]) <;> (repeat' first | exact FlexV.nil | exact FlexT.refl _ | exact FlexT.none _ | exact FlexT.frz _ _ | exact FlexT.nil _ | exact FlexB.nil | exact FlexL.refl _ | exact FlexL.nil _ | exact FlexL.frz _ _ | refine FlexV.cons ?_ ?_ | refine FlexT.box ?_ | refine FlexB.cons ?_ ?_ | refine Flex.mk ?_)
      · replace h := ifn h (by first | (simpa using hb) | (simp at hb ⊢; grind))
        obtain rfl := Option.some.inj h
        have h := q3
        try dsimp only at h
        try simp (maxSteps := 2000000) only [go_sem, ↓reduceIte, reduceCtorEq, Nat.reduceLT, Nat.reduceLeDiff, Nat.reduceEqDiff, Nat.reduceMul, Nat.reduceAdd, Nat.reduceSub, Int.reduceLE, Int.reduceLT]
        repeat refine And.intro (by first | assumption | (show chk _ _ _ = true; kernel_rfl) | omega | (simp; done)) ?_
        obtain ⟨s6, h6, q6⟩ := bd h
        rw [aCode_loop]
        refine aLoop_fx (α := Nat × Int × Int) (fun p => (⟨84, [], [(0, .one (.l (rowsD api_Gain.D a0))), (1, .one (.l (rowsD novationref10_Part.D a1))), (4, .own 2 (rowsD api_Gain.D ([] : List api_Gain))), (5, .one (.v (.int .i64 0))), (6, .own 2 (rowsD api_Gain.D x6_1)), (7, .one (.v (.int .i64 x7_1))), (8, .box [.d (.v (.bool (decide ((p.2.1 : Int) < 0)))), .d (.l (rowsU (digs (p.2.1 : Int).natAbs)))]), (9, .one (.v (.int .i64 x9_3))), (10, .one (.v (.int .i64 p.2.2))), (11, .none), (12, .none)]⟩ : S)) (fun p => novationref15_Gains.l2 a1 x7_1 p.1 p.2.1 p.2.2 = some s6) (fun p => p.1) (FUEL, x8_3, 0) h6 ?_ ?_
        · (try simp only [go_sem, List.map_set, rowsD_append, rowsD_cons, rowsD_nil, rowsD_set, rowsD_take, rowsD_drop, rowsD_replicate]) <;> (repeat' first | exact FlexV.nil | exact FlexT.refl _ | exact FlexT.none _ | exact FlexT.frz _ _ | exact FlexT.nil _ | exact FlexB.nil | exact FlexL.refl _ | exact FlexL.nil _ | exact FlexL.frz _ _ | refine FlexV.cons ?_ ?_ | refine FlexT.box ?_ | refine FlexB.cons ?_ ?_ | refine Flex.mk ?_)
        rintro ⟨k6, x8_6, x10_6⟩ h
        simp only at h
        obtain _ | k6 := k6
        · exact absurd h (by simp [novationref15_Gains.l2])
        rw [novationref15_Gains.l2] at h
        try simp (maxSteps := 2000000) only [go_sem, ↓reduceIte, reduceCtorEq, Nat.reduceLT, Nat.reduceLeDiff, Nat.reduceEqDiff, Nat.reduceMul, Nat.reduceAdd, Nat.reduceSub, Int.reduceLE, Int.reduceLT]
        repeat refine And.intro (by first | assumption | (show chk _ _ _ = true; kernel_rfl) | omega | (simp; done)) ?_
        refine kIf_of (fun hb => ?_) (fun hb => ?_)
        · replace h := ifp h (by first | (simpa using hb) | (simp at hb ⊢; grind))
          obtain ⟨⟨hg16_2_0, hg16_2_1⟩, h⟩ := gd h
          try simp (maxSteps := 2000000) only [go_sem, ↓reduceIte, reduceCtorEq, Nat.reduceLT, Nat.reduceLeDiff, Nat.reduceEqDiff, Nat.reduceMul, Nat.reduceAdd, Nat.reduceSub, Int.reduceLE, Int.reduceLT]
          repeat refine And.intro (by first | assumption | (show chk _ _ _ = true; kernel_rfl) | omega | (simp; done)) ?_
          refine kIf_of (fun hb => ?_) (fun hb => ?_)
          · replace h := ifp h (by first | (simpa using hb) | (simp at hb ⊢; grind))
            try simp (maxSteps := 2000000) only [go_sem, ↓reduceIte, reduceCtorEq, Nat.reduceLT, Nat.reduceLeDiff, Nat.reduceEqDiff, Nat.reduceMul, Nat.reduceAdd, Nat.reduceSub, Int.reduceLE, Int.reduceLT]
            repeat refine And.intro (by first | assumption | (show chk _ _ _ = true; kernel_rfl) | omega | (simp; done)) ?_
            refine kIf_of (fun hb => ?_) (fun hb => ?_)
            · replace h := ifp h (by first | (simpa using hb) | (simp at hb ⊢; grind))
              try simp (maxSteps := 2000000) only [go_sem, ↓reduceIte, reduceCtorEq, Nat.reduceLT, Nat.reduceLeDiff, Nat.reduceEqDiff, Nat.reduceMul, Nat.reduceAdd, Nat.reduceSub, Int.reduceLE, Int.reduceLT]
              repeat refine And.intro (by first | assumption | (show chk _ _ _ = true; kernel_rfl) | omega | (simp; done)) ?_
              obtain ⟨y17_6, hy17_6, h⟩ := bd h
              refine aCall_of (novationref1_Plus.spec hy17_6) ?_
              try simp (maxSteps := 2000000) only [go_sem, ↓reduceIte, reduceCtorEq, Nat.reduceLT, Nat.reduceLeDiff, Nat.reduceEqDiff, Nat.reduceMul, Nat.reduceAdd, Nat.reduceSub, Int.reduceLE, Int.reduceLT]
              repeat refine And.intro (by first | assumption | (show chk _ _ _ = true; kernel_rfl) | omega | (simp; done)) ?_
              refine Round.fx (k6, y17_6, IntKind.i64.wrap (x10_6 + 1)) h (Nat.lt_succ_self k6) ?_
              (try simp only [go_sem, List.map_set, rowsD_append, rowsD_cons, rowsD_nil, rowsD_set, rowsD_take, rowsD_drop, rowsD_replicate]) <;> (repeat' first | exact FlexV.nil | exact FlexT.refl _ | exact FlexT.none _ | exact FlexT.frz _ _ | exact FlexT.nil _ | exact FlexB.nil | exact FlexL.refl _ | exact FlexL.nil _ | exact FlexL.frz _ _ | refine FlexV.cons ?_ ?_ | refine FlexT.box ?_ | refine FlexB.cons ?_ ?_ | refine Flex.mk ?_)
            · replace h := ifn h (by first | (simpa using hb) | (simp at hb ⊢; grind))
              try simp (maxSteps := 2000000) only [go_sem, ↓reduceIte, reduceCtorEq, Nat.reduceLT, Nat.reduceLeDiff, Nat.reduceEqDiff, Nat.reduceMul, Nat.reduceAdd, Nat.reduceSub, Int.reduceLE, Int.reduceLT]
              repeat refine And.intro (by first | assumption | (show chk _ _ _ = true; kernel_rfl) | omega | (simp; done)) ?_
              refine Round.fx (k6, x8_6, IntKind.i64.wrap (x10_6 + 1)) h (Nat.lt_succ_self k6) ?_
              (try simp only [go_sem, List.map_set, rowsD_append, rowsD_cons, rowsD_nil, rowsD_set, rowsD_take, rowsD_drop, rowsD_replicate]) <;> (repeat' first | exact FlexV.nil | exact FlexT.refl _ | exact FlexT.none _ | exact FlexT.frz _ _ | exact FlexT.nil _ | exact FlexB.nil | exact FlexL.refl _ | exact FlexL.nil _ | exact FlexL.frz _ _ | refine FlexV.cons ?_ ?_ | refine FlexT.box ?_ | refine FlexB.cons ?_ ?_ | refine Flex.mk ?_)
          · replace h := ifn h (by first | (simpa using hb) | (simp at hb ⊢; grind))
            try simp (maxSteps := 2000000) only [go_sem, ↓reduceIte, reduceCtorEq, Nat.reduceLT, Nat.reduceLeDiff, Nat.reduceEqDiff, Nat.reduceMul, Nat.reduceAdd, Nat.reduceSub, Int.reduceLE, Int.reduceLT]
            repeat refine And.intro (by first | assumption | (show chk _ _ _ = true; kernel_rfl) | omega | (simp; done)) ?_
            refine Round.fx (k6, x8_6, IntKind.i64.wrap (x10_6 + 1)) h (Nat.lt_succ_self k6) ?_
            (try simp only [go_sem, List.map_set, rowsD_append, rowsD_cons, rowsD_nil, rowsD_set, rowsD_take, rowsD_drop, rowsD_replicate]) <;> (repeat' first | exact FlexV.nil | exact FlexT.refl _ | exact FlexT.none _ | exact FlexT.frz _ _ | exact FlexT.nil _ | exact FlexB.nil | exact FlexL.refl _ | exact FlexL.nil _ | exact FlexL.frz _ _ | refine FlexV.cons ?_ ?_ | refine FlexT.box ?_ | refine FlexB.cons ?_ ?_ | refine Flex.mk ?_)
        · replace h := ifn h (by first | (simpa using hb) | (simp at hb ⊢; grind))
          obtain rfl := Option.some.inj h
          have h := q6
          try dsimp only at h
          try simp (maxSteps := 2000000) only [go_sem, ↓reduceIte, reduceCtorEq, Nat.reduceLT, Nat.reduceLeDiff, Nat.reduceEqDiff, Nat.reduceMul, Nat.reduceAdd, Nat.reduceSub, Int.reduceLE, Int.reduceLT]
          repeat refine And.intro (by first | assumption | (show chk _ _ _ = true; kernel_rfl) | omega | (simp; done)) ?_
          obtain ⟨y18_1, hy18_1, h⟩ := bd h
          refine aCall_of (novationref1_Int.spec hy18_1) ?_
          try simp (maxSteps := 2000000) only [go_sem, ↓reduceIte, reduceCtorEq, Nat.reduceLT, Nat.reduceLeDiff, Nat.reduceEqDiff, Nat.reduceMul, Nat.reduceAdd, Nat.reduceSub, Int.reduceLE, Int.reduceLT]
          repeat refine And.intro (by first | assumption | (show chk _ _ _ = true; kernel_rfl) | omega | (simp; done)) ?_
          refine kIf_of (fun hb => ?_) (fun hb => ?_)
          · replace h := ifp h (by first | (simpa using hb) | (simp at hb ⊢; grind))
            obtain rfl := Option.some.inj h
            have h := q1
            simp only [Flow.go_ret, Flow.goL_ret] at h
            obtain rfl := Option.some.inj h
            simp (maxSteps := 2000000) only [go_sem, ↓reduceIte, reduceCtorEq, Nat.reduceLT, Nat.reduceLeDiff, Nat.reduceEqDiff, Nat.reduceMul, Nat.reduceAdd, Nat.reduceSub, Int.reduceLE, Int.reduceLT] <;> first | rfl | ((repeat (first | refine And.intro (by first | assumption | (show chk _ _ _ = true; kernel_rfl) | omega | (simp; done)) ?_ | rfl | simp only [rowsD_append, rowsD_cons, rowsD_nil, rowsD_set, rowsD_take, rowsD_drop, rowsD_replicate])); done) | (simp only [rowsD_append, rowsD_cons, rowsD_nil, rowsD_set, rowsD_take, rowsD_drop, rowsD_replicate]; done) | (simp only [rowsD_append, rowsD_cons, rowsD_nil, rowsD_set, rowsD_take, rowsD_drop, rowsD_replicate]; rfl)
          · replace h := ifn h (by first | (simpa using hb) | (simp at hb ⊢; grind))
            try simp (maxSteps := 2000000) only [go_sem, ↓reduceIte, reduceCtorEq, Nat.reduceLT, Nat.reduceLeDiff, Nat.reduceEqDiff, Nat.reduceMul, Nat.reduceAdd, Nat.reduceSub, Int.reduceLE, Int.reduceLT]
            repeat refine And.intro (by first | assumption | (show chk _ _ _ = true; kernel_rfl) | omega | (simp; done)) ?_
            refine kIf_of (fun hb => ?_) (fun hb => ?_)
            · replace h := ifp h (by first | (simpa using hb) | (simp at hb ⊢; grind))
              obtain ⟨hg22_5, h⟩ := gd h
              try simp (maxSteps := 2000000) only [go_sem, ↓reduceIte, reduceCtorEq, Nat.reduceLT, Nat.reduceLeDiff, Nat.reduceEqDiff, Nat.reduceMul, Nat.reduceAdd, Nat.reduceSub, Int.reduceLE, Int.reduceLT]
              repeat refine And.intro (by first | assumption | (show chk _ _ _ = true; kernel_rfl) | omega | (simp; done)) ?_
              refine Round.fx (k1, x6_1 ++ ([(⟨x7_1, y18_1.1⟩ : api_Gain)]), IntKind.i64.wrap (x7_1 + 1)) h (Nat.lt_succ_self k1) ?_
              (try simp only [go_sem, List.map_set, rowsD_append, rowsD_cons, rowsD_nil, rowsD_set, rowsD_take, rowsD_drop, rowsD_replicate]) <;> (repeat' first | exact FlexV.nil | exact FlexT.refl _ | exact FlexT.none _ | exact FlexT.frz _ _ | exact FlexT.nil _ | exact FlexB.nil | exact FlexL.refl _ | exact FlexL.nil _ | exact FlexL.frz _ _ | refine FlexV.cons ?_ ?_ | refine FlexT.box ?_ | refine FlexB.cons ?_ ?_ | refine Flex.mk ?_)
            · replace h := ifn h (by first | (simpa using hb) | (simp at hb ⊢; grind))
              try simp (maxSteps := 2000000) only [go_sem, ↓reduceIte, reduceCtorEq, Nat.reduceLT, Nat.reduceLeDiff, Nat.reduceEqDiff, Nat.reduceMul, Nat.reduceAdd, Nat.reduceSub, Int.reduceLE, Int.reduceLT]
              repeat refine And.intro (by first | assumption | (show chk _ _ _ = true; kernel_rfl) | omega | (simp; done)) ?_
              refine Round.fx (k1, x6_1, IntKind.i64.wrap (x7_1 + 1)) h (Nat.lt_succ_self k1) ?_
              (try simp only [go_sem, List.map_set, rowsD_append, rowsD_cons, rowsD_nil, rowsD_set, rowsD_take, rowsD_drop, rowsD_replicate]) <;> (repeat' first | exact FlexV.nil | exact FlexT.refl _ | exact FlexT.none _ | exact FlexT.frz _ _ | exact FlexT.nil _ | exact FlexB.nil | exact FlexL.refl _ | exact FlexL.nil _ | exact FlexL.frz _ _ | refine FlexV.cons ?_ ?_ | refine FlexT.box ?_ | refine FlexB.cons ?_ ?_ | refine Flex.mk ?_)
    · replace h := ifn h (by first | (simpa using hb) | (simp at hb ⊢; grind))
      obtain rfl := Option.some.inj h
      have h := q1
      simp only [Flow.go_out, Flow.goL_out] at h
      try dsimp only at h
      obtain rfl := Option.some.inj h
      simp (maxSteps := 2000000) only [go_sem, ↓reduceIte, reduceCtorEq, Nat.reduceLT, Nat.reduceLeDiff, Nat.reduceEqDiff, Nat.reduceMul, Nat.reduceAdd, Nat.reduceSub, Int.reduceLE, Int.reduceLT] <;> first | rfl | ((repeat (first | refine And.intro (by first | assumption | (show chk _ _ _ = true; kernel_rfl) | omega | (simp; done)) ?_ | rfl | simp only [rowsD_append, rowsD_cons, rowsD_nil, rowsD_set, rowsD_take, rowsD_drop, rowsD_replicate])); done) | (simp only [rowsD_append, rowsD_cons, rowsD_nil, rowsD_set, rowsD_take, rowsD_drop, rowsD_replicate]; done) | (simp only [rowsD_append, rowsD_cons, rowsD_nil, rowsD_set, rowsD_take, rowsD_drop, rowsD_replicate]; rfl)
end Go.Ax

/- The walk of novationlaw15_MarkGains, printed by gen.py. -/
set_option linter.unusedSimpArgs false
set_option linter.unusedVariables false
namespace Go.Ax
open Go Go.Proofs
set_option maxRecDepth 100000
set_option maxHeartbeats 4000000
theorem novationlaw15_MarkGains.spec {a0 : List api_Gain} {a1 : List api_Entry} {r : Bool} (h : novationlaw15_MarkGains.f a0 a1 = some r) : FSpec Try.prog 4 [(false, [.l (rowsD api_Gain.D a0)]), (false, [.l (rowsD api_Entry.D a1)])] [.one (.d (.v (.bool r)))] := by
  unfold novationlaw15_MarkGains.f at h
  refine fspec_data mixed Try.func4 rfl (by decide) [0, 1, 4, 5, 6, 7, 8, 9, 10] (rs := [.tmp 4]) rfl (by decide) (n := 60) rfl (by simp) ?_
  try simp (maxSteps := 2000000) only [go_sem, ↓reduceIte, reduceCtorEq, Nat.reduceLT, Nat.reduceLeDiff, Nat.reduceEqDiff, Nat.reduceMul, Nat.reduceAdd, Nat.reduceSub, Int.reduceLE, Int.reduceLT]
  repeat refine And.intro (by first | assumption | (show chk _ _ _ = true; kernel_rfl) | omega | (simp; done)) ?_
  obtain ⟨y1_0, hy1_0, h⟩ := bd h
  refine aCall_of (novationlaw15_known.spec hy1_0) ?_
  try simp (maxSteps := 2000000) only [go_sem, ↓reduceIte, reduceCtorEq, Nat.reduceLT, Nat.reduceLeDiff, Nat.reduceEqDiff, Nat.reduceMul, Nat.reduceAdd, Nat.reduceSub, Int.reduceLE, Int.reduceLT]
  repeat refine And.intro (by first | assumption | (show chk _ _ _ = true; kernel_rfl) | omega | (simp; done)) ?_
  refine kIf_of (fun hb => ?_) (fun hb => ?_)
  · replace h := ifp h (by first | (simpa using hb) | (simp at hb ⊢; grind))
    obtain rfl := Option.some.inj h
    simp (maxSteps := 2000000) only [go_sem, ↓reduceIte, reduceCtorEq, Nat.reduceLT, Nat.reduceLeDiff, Nat.reduceEqDiff, Nat.reduceMul, Nat.reduceAdd, Nat.reduceSub, Int.reduceLE, Int.reduceLT] <;> first | rfl | ((repeat (first | refine And.intro (by first | assumption | (show chk _ _ _ = true; kernel_rfl) | omega | (simp; done)) ?_ | rfl | simp only [rowsD_append, rowsD_cons, rowsD_nil, rowsD_set, rowsD_take, rowsD_drop, rowsD_replicate])); done) | (simp only [rowsD_append, rowsD_cons, rowsD_nil, rowsD_set, rowsD_take, rowsD_drop, rowsD_replicate]; done) | (simp only [rowsD_append, rowsD_cons, rowsD_nil, rowsD_set, rowsD_take, rowsD_drop, rowsD_replicate]; rfl)
  · replace h := ifn h (by first | (simpa using hb) | (simp at hb ⊢; grind))
    try simp (maxSteps := 2000000) only [go_sem, ↓reduceIte, reduceCtorEq, Nat.reduceLT, Nat.reduceLeDiff, Nat.reduceEqDiff, Nat.reduceMul, Nat.reduceAdd, Nat.reduceSub, Int.reduceLE, Int.reduceLT]
    repeat refine And.intro (by first | assumption | (show chk _ _ _ = true; kernel_rfl) | omega | (simp; done)) ?_
    refine kIf_of (fun hb => ?_) (fun hb => ?_)
    · replace h := ifn h (by first | (simpa using hb) | (simp at hb ⊢; grind))
      try simp (maxSteps := 2000000) only [go_sem, ↓reduceIte, reduceCtorEq, Nat.reduceLT, Nat.reduceLeDiff, Nat.reduceEqDiff, Nat.reduceMul, Nat.reduceAdd, Nat.reduceSub, Int.reduceLE, Int.reduceLT]
      repeat refine And.intro (by first | assumption | (show chk _ _ _ = true; kernel_rfl) | omega | (simp; done)) ?_
      refine kIf_of (fun hb => ?_) (fun hb => ?_)
      · replace h := ifp h (by first | (simpa using hb) | (simp at hb ⊢; grind))
        obtain rfl := Option.some.inj h
        simp (maxSteps := 2000000) only [go_sem, ↓reduceIte, reduceCtorEq, Nat.reduceLT, Nat.reduceLeDiff, Nat.reduceEqDiff, Nat.reduceMul, Nat.reduceAdd, Nat.reduceSub, Int.reduceLE, Int.reduceLT] <;> first | rfl | ((repeat (first | refine And.intro (by first | assumption | (show chk _ _ _ = true; kernel_rfl) | omega | (simp; done)) ?_ | rfl | simp only [rowsD_append, rowsD_cons, rowsD_nil, rowsD_set, rowsD_take, rowsD_drop, rowsD_replicate])); done) | (simp only [rowsD_append, rowsD_cons, rowsD_nil, rowsD_set, rowsD_take, rowsD_drop, rowsD_replicate]; done) | (simp only [rowsD_append, rowsD_cons, rowsD_nil, rowsD_set, rowsD_take, rowsD_drop, rowsD_replicate]; rfl)
      · replace h := ifn h (by first | (simpa using hb) | (simp at hb ⊢; grind))
        try simp (maxSteps := 2000000) only [go_sem, ↓reduceIte, reduceCtorEq, Nat.reduceLT, Nat.reduceLeDiff, Nat.reduceEqDiff, Nat.reduceMul, Nat.reduceAdd, Nat.reduceSub, Int.reduceLE, Int.reduceLT]
        repeat refine And.intro (by first | assumption | (show chk _ _ _ = true; kernel_rfl) | omega | (simp; done)) ?_
        obtain ⟨y5_1, hy5_1, h⟩ := bd h
        refine aCall_of (novationlaw15_parts.spec hy5_1) ?_
        try simp (maxSteps := 2000000) only [go_sem, ↓reduceIte, reduceCtorEq, Nat.reduceLT, Nat.reduceLeDiff, Nat.reduceEqDiff, Nat.reduceMul, Nat.reduceAdd, Nat.reduceSub, Int.reduceLE, Int.reduceLT]
        repeat refine And.intro (by first | assumption | (show chk _ _ _ = true; kernel_rfl) | omega | (simp; done)) ?_
        obtain ⟨y6_2, hy6_2, h⟩ := bd h
        refine aCall_of (mark_Gains.spec hy6_2) ?_
        try simp (maxSteps := 2000000) only [go_sem, ↓reduceIte, reduceCtorEq, Nat.reduceLT, Nat.reduceLeDiff, Nat.reduceEqDiff, Nat.reduceMul, Nat.reduceAdd, Nat.reduceSub, Int.reduceLE, Int.reduceLT]
        repeat refine And.intro (by first | assumption | (show chk _ _ _ = true; kernel_rfl) | omega | (simp; done)) ?_
        obtain ⟨y7_1, hy7_1, h⟩ := bd h
        refine aCall_of (mark_GainsRight.spec hy7_1) ?_
        try simp (maxSteps := 2000000) only [go_sem, ↓reduceIte, reduceCtorEq, Nat.reduceLT, Nat.reduceLeDiff, Nat.reduceEqDiff, Nat.reduceMul, Nat.reduceAdd, Nat.reduceSub, Int.reduceLE, Int.reduceLT]
        repeat refine And.intro (by first | assumption | (show chk _ _ _ = true; kernel_rfl) | omega | (simp; done)) ?_
        obtain ⟨y7_3, hy7_3, h⟩ := bd h
        refine aCall_of (novationref15_RightGains.spec hy7_3) ?_
        try simp (maxSteps := 2000000) only [go_sem, ↓reduceIte, reduceCtorEq, Nat.reduceLT, Nat.reduceLeDiff, Nat.reduceEqDiff, Nat.reduceMul, Nat.reduceAdd, Nat.reduceSub, Int.reduceLE, Int.reduceLT]
        repeat refine And.intro (by first | assumption | (show chk _ _ _ = true; kernel_rfl) | omega | (simp; done)) ?_
        refine kIf_of (fun hb => ?_) (fun hb => ?_)
        · replace h := ifp h (by first | (simpa using hb) | (simp at hb ⊢; grind))
          obtain rfl := Option.some.inj h
          simp (maxSteps := 2000000) only [go_sem, ↓reduceIte, reduceCtorEq, Nat.reduceLT, Nat.reduceLeDiff, Nat.reduceEqDiff, Nat.reduceMul, Nat.reduceAdd, Nat.reduceSub, Int.reduceLE, Int.reduceLT] <;> first | rfl | ((repeat (first | refine And.intro (by first | assumption | (show chk _ _ _ = true; kernel_rfl) | omega | (simp; done)) ?_ | rfl | simp only [rowsD_append, rowsD_cons, rowsD_nil, rowsD_set, rowsD_take, rowsD_drop, rowsD_replicate])); done) | (simp only [rowsD_append, rowsD_cons, rowsD_nil, rowsD_set, rowsD_take, rowsD_drop, rowsD_replicate]; done) | (simp only [rowsD_append, rowsD_cons, rowsD_nil, rowsD_set, rowsD_take, rowsD_drop, rowsD_replicate]; rfl)
        · replace h := ifn h (by first | (simpa using hb) | (simp at hb ⊢; grind))
          try simp (maxSteps := 2000000) only [go_sem, ↓reduceIte, reduceCtorEq, Nat.reduceLT, Nat.reduceLeDiff, Nat.reduceEqDiff, Nat.reduceMul, Nat.reduceAdd, Nat.reduceSub, Int.reduceLE, Int.reduceLT]
          repeat refine And.intro (by first | assumption | (show chk _ _ _ = true; kernel_rfl) | omega | (simp; done)) ?_
          refine kIf_of (fun hb => ?_) (fun hb => ?_)
          · replace h := ifp h (by first | (simpa using hb) | (simp at hb ⊢; grind))
            try simp (maxSteps := 2000000) only [go_sem, ↓reduceIte, reduceCtorEq, Nat.reduceLT, Nat.reduceLeDiff, Nat.reduceEqDiff, Nat.reduceMul, Nat.reduceAdd, Nat.reduceSub, Int.reduceLE, Int.reduceLT]
            repeat refine And.intro (by first | assumption | (show chk _ _ _ = true; kernel_rfl) | omega | (simp; done)) ?_
            refine kIf_of (fun hb => ?_) (fun hb => ?_)
            · replace h := ifp h (by first | (simpa using hb) | (simp at hb ⊢; grind))
              obtain rfl := Option.some.inj h
              simp (maxSteps := 2000000) only [go_sem, ↓reduceIte, reduceCtorEq, Nat.reduceLT, Nat.reduceLeDiff, Nat.reduceEqDiff, Nat.reduceMul, Nat.reduceAdd, Nat.reduceSub, Int.reduceLE, Int.reduceLT] <;> first | rfl | ((repeat (first | refine And.intro (by first | assumption | (show chk _ _ _ = true; kernel_rfl) | omega | (simp; done)) ?_ | rfl | simp only [rowsD_append, rowsD_cons, rowsD_nil, rowsD_set, rowsD_take, rowsD_drop, rowsD_replicate])); done) | (simp only [rowsD_append, rowsD_cons, rowsD_nil, rowsD_set, rowsD_take, rowsD_drop, rowsD_replicate]; done) | (simp only [rowsD_append, rowsD_cons, rowsD_nil, rowsD_set, rowsD_take, rowsD_drop, rowsD_replicate]; rfl)
            · replace h := ifn h (by first | (simpa using hb) | (simp at hb ⊢; grind))
              obtain rfl := Option.some.inj h
              simp (maxSteps := 2000000) only [go_sem, ↓reduceIte, reduceCtorEq, Nat.reduceLT, Nat.reduceLeDiff, Nat.reduceEqDiff, Nat.reduceMul, Nat.reduceAdd, Nat.reduceSub, Int.reduceLE, Int.reduceLT] <;> first | rfl | ((repeat (first | refine And.intro (by first | assumption | (show chk _ _ _ = true; kernel_rfl) | omega | (simp; done)) ?_ | rfl | simp only [rowsD_append, rowsD_cons, rowsD_nil, rowsD_set, rowsD_take, rowsD_drop, rowsD_replicate])); done) | (simp only [rowsD_append, rowsD_cons, rowsD_nil, rowsD_set, rowsD_take, rowsD_drop, rowsD_replicate]; done) | (simp only [rowsD_append, rowsD_cons, rowsD_nil, rowsD_set, rowsD_take, rowsD_drop, rowsD_replicate]; rfl)
          · replace h := ifn h (by first | (simpa using hb) | (simp at hb ⊢; grind))
            try simp (maxSteps := 2000000) only [go_sem, ↓reduceIte, reduceCtorEq, Nat.reduceLT, Nat.reduceLeDiff, Nat.reduceEqDiff, Nat.reduceMul, Nat.reduceAdd, Nat.reduceSub, Int.reduceLE, Int.reduceLT]
            repeat refine And.intro (by first | assumption | (show chk _ _ _ = true; kernel_rfl) | omega | (simp; done)) ?_
            obtain ⟨y11_2, hy11_2, h⟩ := bd h
            refine aCall_of (novationref15_Gains.spec hy11_2) ?_
            try simp (maxSteps := 2000000) only [go_sem, ↓reduceIte, reduceCtorEq, Nat.reduceLT, Nat.reduceLeDiff, Nat.reduceEqDiff, Nat.reduceMul, Nat.reduceAdd, Nat.reduceSub, Int.reduceLE, Int.reduceLT]
            repeat refine And.intro (by first | assumption | (show chk _ _ _ = true; kernel_rfl) | omega | (simp; done)) ?_
            refine kIf_of (fun hb => ?_) (fun hb => ?_)
            · replace h := ifp h (by first | (simpa using hb) | (simp at hb ⊢; grind))
              try simp (maxSteps := 2000000) only [go_sem, ↓reduceIte, reduceCtorEq, Nat.reduceLT, Nat.reduceLeDiff, Nat.reduceEqDiff, Nat.reduceMul, Nat.reduceAdd, Nat.reduceSub, Int.reduceLE, Int.reduceLT]
              repeat refine And.intro (by first | assumption | (show chk _ _ _ = true; kernel_rfl) | omega | (simp; done)) ?_
              obtain ⟨y12_6, hy12_6, h⟩ := bd h
              refine aCall_of (novationhelp_Gains.spec hy12_6) ?_
              obtain rfl := Option.some.inj h
              simp (maxSteps := 2000000) only [go_sem, ↓reduceIte, reduceCtorEq, Nat.reduceLT, Nat.reduceLeDiff, Nat.reduceEqDiff, Nat.reduceMul, Nat.reduceAdd, Nat.reduceSub, Int.reduceLE, Int.reduceLT] <;> first | rfl | ((repeat (first | refine And.intro (by first | assumption | (show chk _ _ _ = true; kernel_rfl) | omega | (simp; done)) ?_ | rfl | simp only [rowsD_append, rowsD_cons, rowsD_nil, rowsD_set, rowsD_take, rowsD_drop, rowsD_replicate])); done) | (simp only [rowsD_append, rowsD_cons, rowsD_nil, rowsD_set, rowsD_take, rowsD_drop, rowsD_replicate]; done) | (simp only [rowsD_append, rowsD_cons, rowsD_nil, rowsD_set, rowsD_take, rowsD_drop, rowsD_replicate]; rfl)
            · replace h := ifn h (by first | (simpa using hb) | (simp at hb ⊢; grind))
              obtain rfl := Option.some.inj h
              simp (maxSteps := 2000000) only [go_sem, ↓reduceIte, reduceCtorEq, Nat.reduceLT, Nat.reduceLeDiff, Nat.reduceEqDiff, Nat.reduceMul, Nat.reduceAdd, Nat.reduceSub, Int.reduceLE, Int.reduceLT] <;> first | rfl | ((repeat (first | refine And.intro (by first | assumption | (show chk _ _ _ = true; kernel_rfl) | omega | (simp; done)) ?_ | rfl | simp only [rowsD_append, rowsD_cons, rowsD_nil, rowsD_set, rowsD_take, rowsD_drop, rowsD_replicate])); done) | (simp only [rowsD_append, rowsD_cons, rowsD_nil, rowsD_set, rowsD_take, rowsD_drop, rowsD_replicate]; done) | (simp only [rowsD_append, rowsD_cons, rowsD_nil, rowsD_set, rowsD_take, rowsD_drop, rowsD_replicate]; rfl)
    · replace h := ifp h (by first | (simpa using hb) | (simp at hb ⊢; grind))
      obtain rfl := Option.some.inj h
      simp (maxSteps := 2000000) only [go_sem, ↓reduceIte, reduceCtorEq, Nat.reduceLT, Nat.reduceLeDiff, Nat.reduceEqDiff, Nat.reduceMul, Nat.reduceAdd, Nat.reduceSub, Int.reduceLE, Int.reduceLT] <;> first | rfl | ((repeat (first | refine And.intro (by first | assumption | (show chk _ _ _ = true; kernel_rfl) | omega | (simp; done)) ?_ | rfl | simp only [rowsD_append, rowsD_cons, rowsD_nil, rowsD_set, rowsD_take, rowsD_drop, rowsD_replicate])); done) | (simp only [rowsD_append, rowsD_cons, rowsD_nil, rowsD_set, rowsD_take, rowsD_drop, rowsD_replicate]; done) | (simp only [rowsD_append, rowsD_cons, rowsD_nil, rowsD_set, rowsD_take, rowsD_drop, rowsD_replicate]; rfl)
end Go.Ax
