/- known tells true. -/
import Derived.Test.YtoojnlkkmppjiaaSb3
set_option linter.unusedVariables false
set_option linter.unusedSimpArgs false
set_option linter.unusedSimpArgs false
set_option linter.unusedVariables false
namespace Go.Ax
open Go Go.Proofs
set_option maxRecDepth 100000
theorem fit_of {z : Int} (h : I64 z) : fit z = true ∧ fitV z = z := amt_yes h
theorem fit_true {z : Int} (h : fit z = true) : I64 z := by
  by_cases hz : -9223372036854775808 ≤ z ∧ z < 9223372036854775808
  · exact hz
  · rw [(amt_no hz).1] at h; exact absurd h (by decide)
theorem bool_self (b : Bool) : (b == b) = true := by simp
theorem k1 : fitV (2 + 3) = 5 ∧ fit (2 + 3) = true ∧ fitV (-4 * 5) = -20 ∧ fit (-4 * 5) = true := by decide
theorem k2 : fitV ([9223372036854775807, 1, -1] : List Int).sum = 9223372036854775807 ∧ fit ([9223372036854775807, 1, -1] : List Int).sum = true := by decide
theorem k3 : fitV (2 - 5) = -3 ∧ fit (2 - 5) = true ∧ fitV (-7) = -7 ∧ fit (-7) = true ∧ fit (- -9223372036854775808) = false := by decide
theorem known_spec : FSpec Try.prog 13 [] [.one (.d (.v (.bool true)))] := by
  refine fspec_of aDraw (aDraw_ok mixed) Try.func13 rfl (by decide) [0, 1, 2, 3, 4, 5, 6, 7, 8, 9, 10, 11, 12, 13, 14] (rs := [.tmp 0]) rfl (by decide) (n := 93) rfl (by simp) ?_
  simp only [go_sem, ↓reduceIte, reduceCtorEq, Nat.reduceLT, Nat.reduceLeDiff, Nat.reduceEqDiff, Nat.reduceMul, Nat.reduceAdd, Nat.reduceSub, Int.reduceLE, Int.reduceLT]
  refine aCall_of (add_spec 2 3 (by decide) (by decide)) ?_
  simp only [go_sem, ↓reduceIte, reduceCtorEq, Nat.reduceLT, Nat.reduceLeDiff, Nat.reduceEqDiff, Nat.reduceMul, Nat.reduceAdd, Nat.reduceSub, Int.reduceLE, Int.reduceLT, amt]
  refine aCall_of (mul_spec (-4) 5 (by decide) (by decide)) ?_
  simp only [go_sem, ↓reduceIte, reduceCtorEq, Nat.reduceLT, Nat.reduceLeDiff, Nat.reduceEqDiff, Nat.reduceMul, Nat.reduceAdd, Nat.reduceSub, Int.reduceLE, Int.reduceLT, amt]
  refine aCall_of (asum_spec [9223372036854775807, 1, -1] (by simp [I64]) (by simp)) ?_
  simp only [go_sem, ↓reduceIte, reduceCtorEq, Nat.reduceLT, Nat.reduceLeDiff, Nat.reduceEqDiff, Nat.reduceMul, Nat.reduceAdd, Nat.reduceSub, Int.reduceLE, Int.reduceLT, amt]
  refine aCall_of (sub_spec 2 5 (by decide) (by decide)) ?_
  simp only [go_sem, ↓reduceIte, reduceCtorEq, Nat.reduceLT, Nat.reduceLeDiff, Nat.reduceEqDiff, Nat.reduceMul, Nat.reduceAdd, Nat.reduceSub, Int.reduceLE, Int.reduceLT, amt]
  refine aCall_of (neg_spec 7 (by decide)) ?_
  simp only [go_sem, ↓reduceIte, reduceCtorEq, Nat.reduceLT, Nat.reduceLeDiff, Nat.reduceEqDiff, Nat.reduceMul, Nat.reduceAdd, Nat.reduceSub, Int.reduceLE, Int.reduceLT, amt]
  refine aCall_of (neg_spec (-9223372036854775808) (by decide)) ?_
  simp only [go_sem, ↓reduceIte, reduceCtorEq, Nat.reduceLT, Nat.reduceLeDiff, Nat.reduceEqDiff, Nat.reduceMul, Nat.reduceAdd, Nat.reduceSub, Int.reduceLE, Int.reduceLT, amt]
  refine aCall_of (least_spec [3, 1, 1] (by simp)) ?_
  simp only [k1, k2, k3, List.length_cons, List.length_nil, Nat.reduceAdd, show leastI [3, 1, 1] 3 = 1 from rfl]
  simp only [go_sem, ↓reduceIte, reduceCtorEq, Nat.reduceLT, Nat.reduceLeDiff, Nat.reduceEqDiff, Nat.reduceMul, Nat.reduceAdd, Nat.reduceSub, Int.reduceLE, Int.reduceLT, Int.reduceEq, Int.reduceNeg, Int.reduceBEq, Int.reduceBNe, decide_true, decide_false, not_true_eq_false, not_false_eq_true, Int.cast_ofNat_Int]
  refine aCall_of (asize_spec (-9) (by decide)) ?_
  simp only [go_sem, ↓reduceIte, reduceCtorEq, Nat.reduceLT, Nat.reduceLeDiff, Nat.reduceEqDiff, Nat.reduceMul, Nat.reduceAdd, Nat.reduceSub, Int.reduceLE, Int.reduceLT, Int.reduceEq, Int.reduceNeg, Int.reduceBEq, Int.reduceBNe, decide_true, decide_false, not_true_eq_false, not_false_eq_true, Int.cast_ofNat_Int, show (-9 : Int).natAbs = 9 from rfl]
end Go.Ax
