/- Ways through a law's own function, printed by paths.py. -/
import Derived.Test.YtmpbhgofllbejaaGa
import Derived.Test.YtmpbhgofllbejaaGs
set_option linter.unusedVariables false
set_option linter.unusedSimpArgs false
set_option linter.unusedSimpArgs false
set_option linter.unusedVariables false
namespace Go.Ax
open Go Go.Proofs
set_option maxRecDepth 100000
set_option maxHeartbeats 40000000
theorem told14_inst {a0 : api_Config} {a1 : List api_Leg} {a2 : List api_Open} {a3 : Int} {a4 : Int} {a5 : Int}
  {y1_2 : Int × Int}
  (hy1_2 : FSpec Try.prog 84 [(true, api_Config.D a0), (false, [.l (rowsD api_Leg.D a1)])] [.agg (wD y1_2.1), .one (.d (.v (.int .i64 y1_2.2)))])
  {y2_2 : Int × Int}
  (hy2_2 : FSpec Try.prog 91 [(true, api_Config.D a0), (false, [.l (rowsD api_Leg.D a1)])] [.agg (bigDs y2_2.1), .one (.d (.v (.int .i64 y2_2.2)))])
  {y3_2 : Int × Int}
  (hy3_2 : FSpec Try.prog 85 [(true, api_Config.D a0), (false, [.l (rowsD api_Leg.D a1)])] [.agg (wD y3_2.1), .one (.d (.v (.int .i64 y3_2.2)))])
  {y4_2 : Int × Int}
  (hy4_2 : FSpec Try.prog 92 [(true, api_Config.D a0), (false, [.l (rowsD api_Leg.D a1)])] [.agg (bigDs y4_2.1), .one (.d (.v (.int .i64 y4_2.2)))])
  {y5_4 : Int × Int}
  (hy5_4 : FSpec Try.prog 86 [(true, api_Config.D a0), (false, [.l (rowsD api_Leg.D a1)]), (false, [.l (rowsD api_Open.D a2)]), (false, [.v (.int .i64 a3)])] [.agg (wD y5_4.1), .one (.d (.v (.int .i64 y5_4.2)))])
  {y6_4 : Int × Int}
  (hy6_4 : FSpec Try.prog 93 [(true, api_Config.D a0), (false, [.l (rowsD api_Leg.D a1)]), (false, [.l (rowsD api_Open.D a2)]), (false, [.v (.int .i64 a3)])] [.agg (bigDs y6_4.1), .one (.d (.v (.int .i64 y6_4.2)))])
  {y7_3 : Int × Int}
  (hy7_3 : FSpec Try.prog 87 [(true, api_Config.D a0), (false, [.l (rowsD api_Leg.D a1)]), (false, [.l (rowsD api_Open.D a2)])] [.agg (wD y7_3.1), .one (.d (.v (.int .i64 y7_3.2)))])
  {y8_3 : Int × Int}
  (hy8_3 : FSpec Try.prog 94 [(true, api_Config.D a0), (false, [.l (rowsD api_Leg.D a1)]), (false, [.l (rowsD api_Open.D a2)])] [.agg (bigDs y8_3.1), .one (.d (.v (.int .i64 y8_3.2)))])
  (hc0 : ¬(¬(y1_2.2 = y2_2.2)))
  (hc1 : ¬(¬(y3_2.2 = y4_2.2)))
  (hc2 : ¬(¬(y5_4.2 = y6_4.2)))
  (hc3 : ¬(¬(y7_3.2 = y8_3.2)))
  (hc4 : ¬(¬(y1_2.2 = 0)))
  {y11_5 : Bool}
  (hy11_5 : FSpec Try.prog 39 [(true, wD y1_2.1), (true, bigDs y2_2.1)] [.one (.d (.v (.bool y11_5)))])
  (hc5 : y11_5 = true)
  (hc6 : ¬(¬(y3_2.2 = 0)))
  {y11_13 : Bool}
  (hy11_13 : FSpec Try.prog 39 [(true, wD y3_2.1), (true, bigDs y4_2.1)] [.one (.d (.v (.bool y11_13)))])
  (hc7 : y11_13 = true)
  (hc8 : ¬(y5_4.2 = 0))
  (hc9 : ¬(¬(y7_3.2 = 0)))
  {y11_31 : Bool}
  (hy11_31 : FSpec Try.prog 39 [(true, wD y7_3.1), (true, bigDs y8_3.1)] [.one (.d (.v (.bool y11_31)))])
  (hc10 : y11_31 = true)
  (hc11 : y1_2.2 = 0)
  (hc12 : ¬(y5_4.2 = 0))
  (hc13 : ((wHi y5_4.1) == (wHi 0) && (wLo y5_4.1) == (wLo 0)) = true)
  {y11_55 : Bool}
  (hy11_55 : FSpec Try.prog 89 [(true, api_Config.D a0), (false, [.l (rowsD api_Leg.D a1)])] [.one (.d (.v (.bool y11_55)))])
  {y11_58 : Bool}
  (hy11_58 : FSpec Try.prog 95 [(true, api_Config.D a0), (false, [.l (rowsD api_Leg.D a1)])] [.one (.d (.v (.bool y11_58)))])
  (hc14 : y11_55 = y11_58)
  {y11_64 : Bool}
  (hy11_64 : FSpec Try.prog 90 [(true, api_Config.D a0), (false, [.l (rowsD api_Open.D a2)])] [.one (.d (.v (.bool y11_64)))])
  {y11_67 : Bool}
  (hy11_67 : FSpec Try.prog 96 [(true, api_Config.D a0), (false, [.l (rowsD api_Open.D a2)])] [.one (.d (.v (.bool y11_67)))])
  (hc15 : y11_64 = y11_67)
  {y11_73 : Bool}
  (hy11_73 : FSpec Try.prog 88 [(false, [.v (.int .i64 a4)]), (true, wD a5)] [.one (.d (.v (.bool y11_73)))])
  {y11_75 : Int}
  (hy11_75 : FSpec Try.prog 62 [(false, [.v (.int .i64 a4)])] [.agg (wD y11_75)])
  {y11_77 : Int}
  (hy11_77 : FSpec Try.prog 97 [(true, wD y11_75), (true, wD a5)] [.one (.d (.v (.int .i64 y11_77)))])
  : FSpec Try.prog 31 [(true, api_Config.D a0), (false, [.l (rowsD api_Leg.D a1)]), (false, [.l (rowsD api_Open.D a2)]), (false, [.v (.int .i64 a3)]), (false, [.v (.int .i64 a4)]), (true, wD a5)] [.one (.d (.v (.bool (y11_73 == (decide (y11_77 ≥ 0))))))] := by
  refine fspec_data mixed Try.func31 rfl (by decide) [0, 1, 2, 3, 4, 5, 6, 11, 12, 13, 14, 15, 16, 17, 18, 19, 20, 21, 22, 23, 24, 25, 26, 27, 28] (rs := [.tmp 12]) rfl (by decide) (n := 182) rfl (by simp) ?_
  as_aux_lemma =>
    try simp (maxSteps := 2000000) only [go_sem, ↓reduceIte, reduceCtorEq, Nat.reduceLT, Nat.reduceLeDiff, Nat.reduceEqDiff, Nat.reduceMul, Nat.reduceAdd, Nat.reduceSub, Int.reduceLE, Int.reduceLT]
    repeat refine And.intro (by first | assumption | (show chk _ _ _ = true; kernel_rfl) | omega | (simp; done)) ?_
    refine aCall_of hy1_2 ?_
    as_aux_lemma =>
      try simp (maxSteps := 2000000) only [go_sem, ↓reduceIte, reduceCtorEq, Nat.reduceLT, Nat.reduceLeDiff, Nat.reduceEqDiff, Nat.reduceMul, Nat.reduceAdd, Nat.reduceSub, Int.reduceLE, Int.reduceLT]
      repeat refine And.intro (by first | assumption | (show chk _ _ _ = true; kernel_rfl) | omega | (simp; done)) ?_
      refine aCall_of hy2_2 ?_
      as_aux_lemma =>
        try simp (maxSteps := 2000000) only [go_sem, ↓reduceIte, reduceCtorEq, Nat.reduceLT, Nat.reduceLeDiff, Nat.reduceEqDiff, Nat.reduceMul, Nat.reduceAdd, Nat.reduceSub, Int.reduceLE, Int.reduceLT]
        repeat refine And.intro (by first | assumption | (show chk _ _ _ = true; kernel_rfl) | omega | (simp; done)) ?_
        refine aCall_of hy3_2 ?_
        as_aux_lemma =>
          try simp (maxSteps := 2000000) only [go_sem, ↓reduceIte, reduceCtorEq, Nat.reduceLT, Nat.reduceLeDiff, Nat.reduceEqDiff, Nat.reduceMul, Nat.reduceAdd, Nat.reduceSub, Int.reduceLE, Int.reduceLT]
          repeat refine And.intro (by first | assumption | (show chk _ _ _ = true; kernel_rfl) | omega | (simp; done)) ?_
          refine aCall_of hy4_2 ?_
          as_aux_lemma =>
            try simp (maxSteps := 2000000) only [go_sem, ↓reduceIte, reduceCtorEq, Nat.reduceLT, Nat.reduceLeDiff, Nat.reduceEqDiff, Nat.reduceMul, Nat.reduceAdd, Nat.reduceSub, Int.reduceLE, Int.reduceLT]
            repeat refine And.intro (by first | assumption | (show chk _ _ _ = true; kernel_rfl) | omega | (simp; done)) ?_
            refine aCall_of hy5_4 ?_
            as_aux_lemma =>
              try simp (maxSteps := 2000000) only [go_sem, ↓reduceIte, reduceCtorEq, Nat.reduceLT, Nat.reduceLeDiff, Nat.reduceEqDiff, Nat.reduceMul, Nat.reduceAdd, Nat.reduceSub, Int.reduceLE, Int.reduceLT]
              repeat refine And.intro (by first | assumption | (show chk _ _ _ = true; kernel_rfl) | omega | (simp; done)) ?_
              refine aCall_of hy6_4 ?_
              as_aux_lemma =>
                try simp (maxSteps := 2000000) only [go_sem, ↓reduceIte, reduceCtorEq, Nat.reduceLT, Nat.reduceLeDiff, Nat.reduceEqDiff, Nat.reduceMul, Nat.reduceAdd, Nat.reduceSub, Int.reduceLE, Int.reduceLT]
                repeat refine And.intro (by first | assumption | (show chk _ _ _ = true; kernel_rfl) | omega | (simp; done)) ?_
                refine aCall_of hy7_3 ?_
                as_aux_lemma =>
                  try simp (maxSteps := 2000000) only [go_sem, ↓reduceIte, reduceCtorEq, Nat.reduceLT, Nat.reduceLeDiff, Nat.reduceEqDiff, Nat.reduceMul, Nat.reduceAdd, Nat.reduceSub, Int.reduceLE, Int.reduceLT]
                  repeat refine And.intro (by first | assumption | (show chk _ _ _ = true; kernel_rfl) | omega | (simp; done)) ?_
                  refine aCall_of hy8_3 ?_
                  as_aux_lemma =>
                    try simp (maxSteps := 2000000) only [go_sem, ↓reduceIte, reduceCtorEq, Nat.reduceLT, Nat.reduceLeDiff, Nat.reduceEqDiff, Nat.reduceMul, Nat.reduceAdd, Nat.reduceSub, Int.reduceLE, Int.reduceLT]
                    repeat refine And.intro (by first | assumption | (show chk _ _ _ = true; kernel_rfl) | omega | (simp; done)) ?_
                    refine kIf_of (fun hb => ?_) (fun hb => absurd (by simpa using hb) hc0)
                    as_aux_lemma =>
                      try simp (maxSteps := 2000000) only [go_sem, ↓reduceIte, reduceCtorEq, Nat.reduceLT, Nat.reduceLeDiff, Nat.reduceEqDiff, Nat.reduceMul, Nat.reduceAdd, Nat.reduceSub, Int.reduceLE, Int.reduceLT]
                      repeat refine And.intro (by first | assumption | (show chk _ _ _ = true; kernel_rfl) | omega | (simp; done)) ?_
                      refine kIf_of (fun hb => ?_) (fun hb => absurd (by simpa using hb) hc1)
                      as_aux_lemma =>
                        try simp (maxSteps := 2000000) only [go_sem, ↓reduceIte, reduceCtorEq, Nat.reduceLT, Nat.reduceLeDiff, Nat.reduceEqDiff, Nat.reduceMul, Nat.reduceAdd, Nat.reduceSub, Int.reduceLE, Int.reduceLT]
                        repeat refine And.intro (by first | assumption | (show chk _ _ _ = true; kernel_rfl) | omega | (simp; done)) ?_
                        refine kIf_of (fun hb => ?_) (fun hb => absurd (by simpa using hb) hc2)
                        as_aux_lemma =>
                          try simp (maxSteps := 2000000) only [go_sem, ↓reduceIte, reduceCtorEq, Nat.reduceLT, Nat.reduceLeDiff, Nat.reduceEqDiff, Nat.reduceMul, Nat.reduceAdd, Nat.reduceSub, Int.reduceLE, Int.reduceLT]
                          repeat refine And.intro (by first | assumption | (show chk _ _ _ = true; kernel_rfl) | omega | (simp; done)) ?_
                          refine kIf_of (fun hb => absurd (by simpa using hb) hc3) (fun hb => ?_)
                          as_aux_lemma =>
                            try simp (maxSteps := 2000000) only [go_sem, ↓reduceIte, reduceCtorEq, Nat.reduceLT, Nat.reduceLeDiff, Nat.reduceEqDiff, Nat.reduceMul, Nat.reduceAdd, Nat.reduceSub, Int.reduceLE, Int.reduceLT]
                            repeat refine And.intro (by first | assumption | (show chk _ _ _ = true; kernel_rfl) | omega | (simp; done)) ?_
                            refine kIf_of (fun hb => ?_) (fun hb => absurd (by simpa using hb) hc4)
                            as_aux_lemma =>
                              try simp (maxSteps := 2000000) only [go_sem, ↓reduceIte, reduceCtorEq, Nat.reduceLT, Nat.reduceLeDiff, Nat.reduceEqDiff, Nat.reduceMul, Nat.reduceAdd, Nat.reduceSub, Int.reduceLE, Int.reduceLT]
                              repeat refine And.intro (by first | assumption | (show chk _ _ _ = true; kernel_rfl) | omega | (simp; done)) ?_
                              refine aCall_of hy11_5 ?_
                              as_aux_lemma =>
                                try simp (maxSteps := 2000000) only [go_sem, ↓reduceIte, reduceCtorEq, Nat.reduceLT, Nat.reduceLeDiff, Nat.reduceEqDiff, Nat.reduceMul, Nat.reduceAdd, Nat.reduceSub, Int.reduceLE, Int.reduceLT]
                                repeat refine And.intro (by first | assumption | (show chk _ _ _ = true; kernel_rfl) | omega | (simp; done)) ?_
                                refine kIf_of (fun hb => ?_) (fun hb => absurd hc5 (by simpa using hb))
                                as_aux_lemma =>
                                  try simp (maxSteps := 2000000) only [go_sem, ↓reduceIte, reduceCtorEq, Nat.reduceLT, Nat.reduceLeDiff, Nat.reduceEqDiff, Nat.reduceMul, Nat.reduceAdd, Nat.reduceSub, Int.reduceLE, Int.reduceLT]
                                  repeat refine And.intro (by first | assumption | (show chk _ _ _ = true; kernel_rfl) | omega | (simp; done)) ?_
                                  refine kIf_of (fun hb => ?_) (fun hb => absurd (by simpa using hb) hc6)
                                  as_aux_lemma =>
                                    try simp (maxSteps := 2000000) only [go_sem, ↓reduceIte, reduceCtorEq, Nat.reduceLT, Nat.reduceLeDiff, Nat.reduceEqDiff, Nat.reduceMul, Nat.reduceAdd, Nat.reduceSub, Int.reduceLE, Int.reduceLT]
                                    repeat refine And.intro (by first | assumption | (show chk _ _ _ = true; kernel_rfl) | omega | (simp; done)) ?_
                                    refine aCall_of hy11_13 ?_
                                    as_aux_lemma =>
                                      try simp (maxSteps := 2000000) only [go_sem, ↓reduceIte, reduceCtorEq, Nat.reduceLT, Nat.reduceLeDiff, Nat.reduceEqDiff, Nat.reduceMul, Nat.reduceAdd, Nat.reduceSub, Int.reduceLE, Int.reduceLT]
                                      repeat refine And.intro (by first | assumption | (show chk _ _ _ = true; kernel_rfl) | omega | (simp; done)) ?_
                                      refine kIf_of (fun hb => ?_) (fun hb => absurd hc7 (by simpa using hb))
                                      as_aux_lemma =>
                                        try simp (maxSteps := 2000000) only [go_sem, ↓reduceIte, reduceCtorEq, Nat.reduceLT, Nat.reduceLeDiff, Nat.reduceEqDiff, Nat.reduceMul, Nat.reduceAdd, Nat.reduceSub, Int.reduceLE, Int.reduceLT]
                                        repeat refine And.intro (by first | assumption | (show chk _ _ _ = true; kernel_rfl) | omega | (simp; done)) ?_
                                        refine kIf_of (fun hb => absurd hc8 (by simpa using hb)) (fun hb => ?_)
                                        as_aux_lemma =>
                                          try simp (maxSteps := 2000000) only [go_sem, ↓reduceIte, reduceCtorEq, Nat.reduceLT, Nat.reduceLeDiff, Nat.reduceEqDiff, Nat.reduceMul, Nat.reduceAdd, Nat.reduceSub, Int.reduceLE, Int.reduceLT]
                                          repeat refine And.intro (by first | assumption | (show chk _ _ _ = true; kernel_rfl) | omega | (simp; done)) ?_
                                          refine kIf_of (fun hb => ?_) (fun hb => absurd (by simpa using hb) hc9)
                                          as_aux_lemma =>
                                            try simp (maxSteps := 2000000) only [go_sem, ↓reduceIte, reduceCtorEq, Nat.reduceLT, Nat.reduceLeDiff, Nat.reduceEqDiff, Nat.reduceMul, Nat.reduceAdd, Nat.reduceSub, Int.reduceLE, Int.reduceLT]
                                            repeat refine And.intro (by first | assumption | (show chk _ _ _ = true; kernel_rfl) | omega | (simp; done)) ?_
                                            refine aCall_of hy11_31 ?_
                                            as_aux_lemma =>
                                              try simp (maxSteps := 2000000) only [go_sem, ↓reduceIte, reduceCtorEq, Nat.reduceLT, Nat.reduceLeDiff, Nat.reduceEqDiff, Nat.reduceMul, Nat.reduceAdd, Nat.reduceSub, Int.reduceLE, Int.reduceLT]
                                              repeat refine And.intro (by first | assumption | (show chk _ _ _ = true; kernel_rfl) | omega | (simp; done)) ?_
                                              refine kIf_of (fun hb => ?_) (fun hb => absurd hc10 (by simpa using hb))
                                              as_aux_lemma =>
                                                try simp (maxSteps := 2000000) only [go_sem, ↓reduceIte, reduceCtorEq, Nat.reduceLT, Nat.reduceLeDiff, Nat.reduceEqDiff, Nat.reduceMul, Nat.reduceAdd, Nat.reduceSub, Int.reduceLE, Int.reduceLT]
                                                repeat refine And.intro (by first | assumption | (show chk _ _ _ = true; kernel_rfl) | omega | (simp; done)) ?_
                                                refine kIf_of (fun hb => absurd hc11 (by simpa using hb)) (fun hb => ?_)
                                                as_aux_lemma =>
                                                  try simp (maxSteps := 2000000) only [go_sem, ↓reduceIte, reduceCtorEq, Nat.reduceLT, Nat.reduceLeDiff, Nat.reduceEqDiff, Nat.reduceMul, Nat.reduceAdd, Nat.reduceSub, Int.reduceLE, Int.reduceLT]
                                                  repeat refine And.intro (by first | assumption | (show chk _ _ _ = true; kernel_rfl) | omega | (simp; done)) ?_
                                                  refine kIf_of (fun hb => ?_) (fun hb => absurd (by simpa using hb) hc12)
                                                  as_aux_lemma =>
                                                    try simp (maxSteps := 2000000) only [go_sem, ↓reduceIte, reduceCtorEq, Nat.reduceLT, Nat.reduceLeDiff, Nat.reduceEqDiff, Nat.reduceMul, Nat.reduceAdd, Nat.reduceSub, Int.reduceLE, Int.reduceLT]
                                                    repeat refine And.intro (by first | assumption | (show chk _ _ _ = true; kernel_rfl) | omega | (simp; done)) ?_
                                                    refine kIf_of (fun hb => ?_) (fun hb => absurd hc13 (by simpa using hb))
                                                    as_aux_lemma =>
                                                      try simp (maxSteps := 2000000) only [go_sem, ↓reduceIte, reduceCtorEq, Nat.reduceLT, Nat.reduceLeDiff, Nat.reduceEqDiff, Nat.reduceMul, Nat.reduceAdd, Nat.reduceSub, Int.reduceLE, Int.reduceLT]
                                                      repeat refine And.intro (by first | assumption | (show chk _ _ _ = true; kernel_rfl) | omega | (simp; done)) ?_
                                                      refine aCall_of hy11_55 ?_
                                                      as_aux_lemma =>
                                                        try simp (maxSteps := 2000000) only [go_sem, ↓reduceIte, reduceCtorEq, Nat.reduceLT, Nat.reduceLeDiff, Nat.reduceEqDiff, Nat.reduceMul, Nat.reduceAdd, Nat.reduceSub, Int.reduceLE, Int.reduceLT]
                                                        repeat refine And.intro (by first | assumption | (show chk _ _ _ = true; kernel_rfl) | omega | (simp; done)) ?_
                                                        refine aCall_of hy11_58 ?_
                                                        as_aux_lemma =>
                                                          try simp (maxSteps := 2000000) only [go_sem, ↓reduceIte, reduceCtorEq, Nat.reduceLT, Nat.reduceLeDiff, Nat.reduceEqDiff, Nat.reduceMul, Nat.reduceAdd, Nat.reduceSub, Int.reduceLE, Int.reduceLT]
                                                          repeat refine And.intro (by first | assumption | (show chk _ _ _ = true; kernel_rfl) | omega | (simp; done)) ?_
                                                          refine kIf_of (fun hb => ?_) (fun hb => absurd hc14 (by simpa using hb))
                                                          as_aux_lemma =>
                                                            try simp (maxSteps := 2000000) only [go_sem, ↓reduceIte, reduceCtorEq, Nat.reduceLT, Nat.reduceLeDiff, Nat.reduceEqDiff, Nat.reduceMul, Nat.reduceAdd, Nat.reduceSub, Int.reduceLE, Int.reduceLT]
                                                            repeat refine And.intro (by first | assumption | (show chk _ _ _ = true; kernel_rfl) | omega | (simp; done)) ?_
                                                            refine aCall_of hy11_64 ?_
                                                            as_aux_lemma =>
                                                              try simp (maxSteps := 2000000) only [go_sem, ↓reduceIte, reduceCtorEq, Nat.reduceLT, Nat.reduceLeDiff, Nat.reduceEqDiff, Nat.reduceMul, Nat.reduceAdd, Nat.reduceSub, Int.reduceLE, Int.reduceLT]
                                                              repeat refine And.intro (by first | assumption | (show chk _ _ _ = true; kernel_rfl) | omega | (simp; done)) ?_
                                                              refine aCall_of hy11_67 ?_
                                                              as_aux_lemma =>
                                                                try simp (maxSteps := 2000000) only [go_sem, ↓reduceIte, reduceCtorEq, Nat.reduceLT, Nat.reduceLeDiff, Nat.reduceEqDiff, Nat.reduceMul, Nat.reduceAdd, Nat.reduceSub, Int.reduceLE, Int.reduceLT]
                                                                repeat refine And.intro (by first | assumption | (show chk _ _ _ = true; kernel_rfl) | omega | (simp; done)) ?_
                                                                refine kIf_of (fun hb => ?_) (fun hb => absurd hc15 (by simpa using hb))
                                                                as_aux_lemma =>
                                                                  try simp (maxSteps := 2000000) only [go_sem, ↓reduceIte, reduceCtorEq, Nat.reduceLT, Nat.reduceLeDiff, Nat.reduceEqDiff, Nat.reduceMul, Nat.reduceAdd, Nat.reduceSub, Int.reduceLE, Int.reduceLT]
                                                                  repeat refine And.intro (by first | assumption | (show chk _ _ _ = true; kernel_rfl) | omega | (simp; done)) ?_
                                                                  refine aCall_of hy11_73 ?_
                                                                  as_aux_lemma =>
                                                                    try simp (maxSteps := 2000000) only [go_sem, ↓reduceIte, reduceCtorEq, Nat.reduceLT, Nat.reduceLeDiff, Nat.reduceEqDiff, Nat.reduceMul, Nat.reduceAdd, Nat.reduceSub, Int.reduceLE, Int.reduceLT]
                                                                    repeat refine And.intro (by first | assumption | (show chk _ _ _ = true; kernel_rfl) | omega | (simp; done)) ?_
                                                                    refine aCall_of hy11_75 ?_
                                                                    as_aux_lemma =>
                                                                      try simp (maxSteps := 2000000) only [go_sem, ↓reduceIte, reduceCtorEq, Nat.reduceLT, Nat.reduceLeDiff, Nat.reduceEqDiff, Nat.reduceMul, Nat.reduceAdd, Nat.reduceSub, Int.reduceLE, Int.reduceLT]
                                                                      repeat refine And.intro (by first | assumption | (show chk _ _ _ = true; kernel_rfl) | omega | (simp; done)) ?_
                                                                      refine aCall_of hy11_77 ?_
                                                                      as_aux_lemma =>
                                                                        simp (maxSteps := 2000000) only [go_sem, ↓reduceIte, reduceCtorEq, Nat.reduceLT, Nat.reduceLeDiff, Nat.reduceEqDiff, Nat.reduceMul, Nat.reduceAdd, Nat.reduceSub, Int.reduceLE, Int.reduceLT] <;> first | rfl | (repeat (first | refine And.intro (by first | assumption | (show chk _ _ _ = true; kernel_rfl) | omega | (simp; done)) ?_ | rfl | simp only [rowsD_append, rowsD_cons, rowsD_nil, rowsD_set, rowsD_take, rowsD_drop, rowsD_replicate]); done) | (simp only [rowsD_append, rowsD_cons, rowsD_nil, rowsD_set, rowsD_take, rowsD_drop, rowsD_replicate]; done) | (simp only [rowsD_append, rowsD_cons, rowsD_nil, rowsD_set, rowsD_take, rowsD_drop, rowsD_replicate]; rfl)

end Go.Ax
