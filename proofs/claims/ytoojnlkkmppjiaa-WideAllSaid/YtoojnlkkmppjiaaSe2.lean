/- known of the wide numbers' laws. -/
import Derived.Test.YtoojnlkkmppjiaaSe1
set_option linter.unusedVariables false
set_option linter.unusedSimpArgs false
set_option linter.unusedSimpArgs false
set_option linter.unusedVariables false
namespace Go.Ax
open Go Go.Proofs
set_option maxRecDepth 100000
set_option maxHeartbeats 4000000
theorem wknown_spec : FSpec Try.prog 28 [] yes := by
  refine fspec_of aDraw (aDraw_ok mixed) Try.func28 rfl (by decide) [0, 1, 2, 3, 4, 5, 6, 7, 8, 9, 10, 11, 12, 13, 14, 15, 16, 17, 18] (rs := [.tmp 0]) rfl (by decide) (n := 141) rfl (by simp) ?_
  have i : ∀ x : Int, -100 ≤ x → x ≤ 100 → I64 x := fun x h1 h2 => by simp only [I64]; omega
  have w : ∀ x : Int, -100 ≤ x → x ≤ 100 → Wid x := fun x h1 h2 => by simp only [Wid]; omega
  have hm := wmul_spec (-9223372036854775808) (-9223372036854775808) (by simp [I64]) (by simp [I64])
  have hd := wdiv_spec (-1) 2 (w _ (by omega) (by omega)) (i _ (by omega) (by omega))
  have ha := wadd_spec 5 (-7) (w _ (by omega) (by omega)) (w _ (by omega) (by omega))
  have hs := wsub_spec 5 7 (w _ (by omega) (by omega)) (w _ (by omega) (by omega))
  have hn := wneg_spec 3 (w _ (by omega) (by omega))
  have hb := wabs_spec (-3) (w _ (by omega) (by omega))
  have ht := wtimes_spec 6 7 (w _ (by omega) (by omega)) (i _ (by omega) (by omega))
  have hu := wsum_spec [1, 2] (by simp [Wid]) (by simp)
  have hi := wint_spec 3 (w _ (by omega) (by omega))
  rw [show divAns (-1) 2 = [.agg (wD (-1)), .one (.d (.v (.int .i64 1))), .one (.d (.v (.bool true)))] from rfl] at hd
  rw [wAns_yes (w _ (by omega) (by omega))] at ha hs hn ht
  rw [show ((-3 : Int).natAbs : Int) = 3 from rfl, wAns_yes (w _ (by omega) (by omega))] at hb
  rw [show ([1, 2] : List Int).sum = 3 from rfl, wAns_yes (w _ (by omega) (by omega))] at hu
  simp only [amt, (fit_of (i 3 (by omega) (by omega))).1, (fit_of (i 3 (by omega) (by omega))).2] at hi
  have om1 := of_spec (-1) (i _ (by omega) (by omega))
  have o5 := of_spec (5) (i _ (by omega) (by omega))
  have om7 := of_spec (-7) (i _ (by omega) (by omega))
  have o7 := of_spec (7) (i _ (by omega) (by omega))
  have o3 := of_spec (3) (i _ (by omega) (by omega))
  have om3 := of_spec (-3) (i _ (by omega) (by omega))
  have o6 := of_spec (6) (i _ (by omega) (by omega))
  have o1 := of_spec (1) (i _ (by omega) (by omega))
  have o2 := of_spec (2) (i _ (by omega) (by omega))
  have o42 := of_spec (42) (i _ (by omega) (by omega))
  have hsg := wsign_spec (5 + -7)
  have hcm := wcmp_spec (5 + -7) 3
  rw [show cmpI (5 + -7) 0 = -1 from rfl] at hsg
  rw [show cmpI (5 + -7) 3 = -1 from rfl] at hcm
  simp only [wD, wHi, wLo, rowsW, List.map_cons, List.map_nil, Int.reduceMul, Int.reduceDiv, Int.reduceMod, Int.reduceNeg, Int.reduceAdd, Int.reduceSub] at hm hd ha hs hn hb ht hu hi hsg hcm om1 o5 om7 o7 o3 om3 o6 o1 o2 o42
  simp only [go_sem, ↓reduceIte, reduceCtorEq, Nat.reduceLT, Nat.reduceLeDiff, Nat.reduceEqDiff, Nat.reduceMul, Nat.reduceAdd, Nat.reduceSub, Int.reduceLE, Int.reduceLT]
  refine aCall_of hm ?_
  simp only [go_sem, ↓reduceIte, reduceCtorEq, Nat.reduceLT, Nat.reduceLeDiff, Nat.reduceEqDiff, Nat.reduceMul, Nat.reduceAdd, Nat.reduceSub, Int.reduceLE, Int.reduceLT]
  refine aCall_of om1 ?_
  simp only [go_sem, ↓reduceIte, reduceCtorEq, Nat.reduceLT, Nat.reduceLeDiff, Nat.reduceEqDiff, Nat.reduceMul, Nat.reduceAdd, Nat.reduceSub, Int.reduceLE, Int.reduceLT, Int.reduceEq, Int.reduceNeg, Int.reduceBEq, Int.reduceBNe, Bool.and_self, decide_true, decide_false]
  refine aCall_of hd ?_
  simp only [go_sem, ↓reduceIte, reduceCtorEq, Nat.reduceLT, Nat.reduceLeDiff, Nat.reduceEqDiff, Nat.reduceMul, Nat.reduceAdd, Nat.reduceSub, Int.reduceLE, Int.reduceLT, Int.reduceEq, Int.reduceNeg, Int.reduceBEq, Int.reduceBNe, Bool.and_self, decide_true, decide_false]
  refine aCall_of o5 ?_
  simp only [go_sem, ↓reduceIte, reduceCtorEq, Nat.reduceLT, Nat.reduceLeDiff, Nat.reduceEqDiff, Nat.reduceMul, Nat.reduceAdd, Nat.reduceSub, Int.reduceLE, Int.reduceLT, Int.reduceEq, Int.reduceNeg, Int.reduceBEq, Int.reduceBNe, Bool.and_self, decide_true, decide_false]
  refine aCall_of om7 ?_
  simp only [go_sem, ↓reduceIte, reduceCtorEq, Nat.reduceLT, Nat.reduceLeDiff, Nat.reduceEqDiff, Nat.reduceMul, Nat.reduceAdd, Nat.reduceSub, Int.reduceLE, Int.reduceLT, Int.reduceEq, Int.reduceNeg, Int.reduceBEq, Int.reduceBNe, Bool.and_self, decide_true, decide_false]
  refine aCall_of ha ?_
  simp only [go_sem, ↓reduceIte, reduceCtorEq, Nat.reduceLT, Nat.reduceLeDiff, Nat.reduceEqDiff, Nat.reduceMul, Nat.reduceAdd, Nat.reduceSub, Int.reduceLE, Int.reduceLT, Int.reduceEq, Int.reduceNeg, Int.reduceBEq, Int.reduceBNe, Bool.and_self, decide_true, decide_false]
  refine aCall_of o5 ?_
  simp only [go_sem, ↓reduceIte, reduceCtorEq, Nat.reduceLT, Nat.reduceLeDiff, Nat.reduceEqDiff, Nat.reduceMul, Nat.reduceAdd, Nat.reduceSub, Int.reduceLE, Int.reduceLT, Int.reduceEq, Int.reduceNeg, Int.reduceBEq, Int.reduceBNe, Bool.and_self, decide_true, decide_false]
  refine aCall_of o7 ?_
  simp only [go_sem, ↓reduceIte, reduceCtorEq, Nat.reduceLT, Nat.reduceLeDiff, Nat.reduceEqDiff, Nat.reduceMul, Nat.reduceAdd, Nat.reduceSub, Int.reduceLE, Int.reduceLT, Int.reduceEq, Int.reduceNeg, Int.reduceBEq, Int.reduceBNe, Bool.and_self, decide_true, decide_false]
  refine aCall_of hs ?_
  simp only [go_sem, ↓reduceIte, reduceCtorEq, Nat.reduceLT, Nat.reduceLeDiff, Nat.reduceEqDiff, Nat.reduceMul, Nat.reduceAdd, Nat.reduceSub, Int.reduceLE, Int.reduceLT, Int.reduceEq, Int.reduceNeg, Int.reduceBEq, Int.reduceBNe, Bool.and_self, decide_true, decide_false]
  refine aCall_of o3 ?_
  simp only [go_sem, ↓reduceIte, reduceCtorEq, Nat.reduceLT, Nat.reduceLeDiff, Nat.reduceEqDiff, Nat.reduceMul, Nat.reduceAdd, Nat.reduceSub, Int.reduceLE, Int.reduceLT, Int.reduceEq, Int.reduceNeg, Int.reduceBEq, Int.reduceBNe, Bool.and_self, decide_true, decide_false]
  refine aCall_of hn ?_
  simp only [go_sem, ↓reduceIte, reduceCtorEq, Nat.reduceLT, Nat.reduceLeDiff, Nat.reduceEqDiff, Nat.reduceMul, Nat.reduceAdd, Nat.reduceSub, Int.reduceLE, Int.reduceLT, Int.reduceEq, Int.reduceNeg, Int.reduceBEq, Int.reduceBNe, Bool.and_self, decide_true, decide_false]
  refine aCall_of om3 ?_
  simp only [go_sem, ↓reduceIte, reduceCtorEq, Nat.reduceLT, Nat.reduceLeDiff, Nat.reduceEqDiff, Nat.reduceMul, Nat.reduceAdd, Nat.reduceSub, Int.reduceLE, Int.reduceLT, Int.reduceEq, Int.reduceNeg, Int.reduceBEq, Int.reduceBNe, Bool.and_self, decide_true, decide_false]
  refine aCall_of hb ?_
  simp only [go_sem, ↓reduceIte, reduceCtorEq, Nat.reduceLT, Nat.reduceLeDiff, Nat.reduceEqDiff, Nat.reduceMul, Nat.reduceAdd, Nat.reduceSub, Int.reduceLE, Int.reduceLT, Int.reduceEq, Int.reduceNeg, Int.reduceBEq, Int.reduceBNe, Bool.and_self, decide_true, decide_false]
  refine aCall_of o6 ?_
  simp only [go_sem, ↓reduceIte, reduceCtorEq, Nat.reduceLT, Nat.reduceLeDiff, Nat.reduceEqDiff, Nat.reduceMul, Nat.reduceAdd, Nat.reduceSub, Int.reduceLE, Int.reduceLT, Int.reduceEq, Int.reduceNeg, Int.reduceBEq, Int.reduceBNe, Bool.and_self, decide_true, decide_false]
  refine aCall_of ht ?_
  simp only [go_sem, ↓reduceIte, reduceCtorEq, Nat.reduceLT, Nat.reduceLeDiff, Nat.reduceEqDiff, Nat.reduceMul, Nat.reduceAdd, Nat.reduceSub, Int.reduceLE, Int.reduceLT, Int.reduceEq, Int.reduceNeg, Int.reduceBEq, Int.reduceBNe, Bool.and_self, decide_true, decide_false]
  refine aCall_of o1 ?_
  simp only [go_sem, ↓reduceIte, reduceCtorEq, Nat.reduceLT, Nat.reduceLeDiff, Nat.reduceEqDiff, Nat.reduceMul, Nat.reduceAdd, Nat.reduceSub, Int.reduceLE, Int.reduceLT, Int.reduceEq, Int.reduceNeg, Int.reduceBEq, Int.reduceBNe, Bool.and_self, decide_true, decide_false]
  refine aCall_of o2 ?_
  simp only [go_sem, ↓reduceIte, reduceCtorEq, Nat.reduceLT, Nat.reduceLeDiff, Nat.reduceEqDiff, Nat.reduceMul, Nat.reduceAdd, Nat.reduceSub, Int.reduceLE, Int.reduceLT, Int.reduceEq, Int.reduceNeg, Int.reduceBEq, Int.reduceBNe, Bool.and_self, decide_true, decide_false]
  refine aCall_of hu ?_
  simp only [go_sem, ↓reduceIte, reduceCtorEq, Nat.reduceLT, Nat.reduceLeDiff, Nat.reduceEqDiff, Nat.reduceMul, Nat.reduceAdd, Nat.reduceSub, Int.reduceLE, Int.reduceLT, Int.reduceEq, Int.reduceNeg, Int.reduceBEq, Int.reduceBNe, Bool.and_self, decide_true, decide_false]
  refine aCall_of hi ?_
  simp only [go_sem, ↓reduceIte, reduceCtorEq, Nat.reduceLT, Nat.reduceLeDiff, Nat.reduceEqDiff, Nat.reduceMul, Nat.reduceAdd, Nat.reduceSub, Int.reduceLE, Int.reduceLT, Int.reduceEq, Int.reduceNeg, Int.reduceBEq, Int.reduceBNe, Bool.and_self, decide_true, decide_false]
  refine aCall_of hsg ?_
  simp only [go_sem, ↓reduceIte, reduceCtorEq, Nat.reduceLT, Nat.reduceLeDiff, Nat.reduceEqDiff, Nat.reduceMul, Nat.reduceAdd, Nat.reduceSub, Int.reduceLE, Int.reduceLT, Int.reduceEq, Int.reduceNeg, Int.reduceBEq, Int.reduceBNe, Bool.and_self, decide_true, decide_false]
  refine aCall_of o3 ?_
  simp only [go_sem, ↓reduceIte, reduceCtorEq, Nat.reduceLT, Nat.reduceLeDiff, Nat.reduceEqDiff, Nat.reduceMul, Nat.reduceAdd, Nat.reduceSub, Int.reduceLE, Int.reduceLT, Int.reduceEq, Int.reduceNeg, Int.reduceBEq, Int.reduceBNe, Bool.and_self, decide_true, decide_false]
  refine aCall_of o42 ?_
  simp only [go_sem, ↓reduceIte, reduceCtorEq, Nat.reduceLT, Nat.reduceLeDiff, Nat.reduceEqDiff, Nat.reduceMul, Nat.reduceAdd, Nat.reduceSub, Int.reduceLE, Int.reduceLT, Int.reduceEq, Int.reduceNeg, Int.reduceBEq, Int.reduceBNe, Bool.and_self, decide_true, decide_false]
  refine aCall_of hcm ?_
  simp only [go_sem, ↓reduceIte, reduceCtorEq, Nat.reduceLT, Nat.reduceLeDiff, Nat.reduceEqDiff, Nat.reduceMul, Nat.reduceAdd, Nat.reduceSub, Int.reduceLE, Int.reduceLT, Int.reduceEq, Int.reduceNeg, Int.reduceBEq, Int.reduceBNe, Bool.and_self, decide_true, decide_false]
  exact ⟨by kernel_rfl, rfl⟩
end Go.Ax
