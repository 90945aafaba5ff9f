/- The four laws of amounts tell true. -/
import Derived.Test.YtoojnlkkmppjiaaSb4
import Derived.Test.YtoojnlkkmppjiaaLibF
set_option linter.unusedVariables false
set_option linter.unusedSimpArgs false
set_option linter.unusedSimpArgs false
set_option linter.unusedVariables false
namespace Go.Ax
open Go Go.Proofs
set_option maxRecDepth 100000
theorem digsZ_le {z : Int} (k : Nat) (h : z.natAbs < BB ^ k) : (digs z.natAbs).length ≤ k := (digs_len _ _).2 h
theorem told_yes (z : Int) : (decide (fitV z = fitV z) && (fit z == fit z)) = true := by simp
theorem told_true (z : Int) (hl : (digs z.natAbs).length < 2 ^ 40) : FSpec Try.prog 19 [(false, [.v (.int .i64 (fitV z))]), (false, [.v (.bool (fit z))]), (true, bigDs z)] yes := by
  have h := told_spec (fitV z) (fit z) z hl
  rw [told_yes] at h
  exact h
theorem amountAll_spec (a b : Int) (ha : I64 a) (hb : I64 b) : FSpec Try.prog 3 [(false, [.v (.int .i64 a)]), (false, [.v (.int .i64 b)])] yes := by
  refine fspec_of aDraw (aDraw_ok mixed) Try.func3 rfl (by decide) [0, 1, 4, 5, 6, 7, 8, 9, 10, 11, 12, 13, 14, 15] (rs := [.tmp 4]) rfl (by decide) (n := 86) rfl (by simp) ?_
  have ha' := ha
  have hb' := hb
  simp only [I64] at ha' hb'
  have la : (digs a.natAbs).length < 2 ^ 20 := by have := digsZ_le (z := a) 2 (by simp only [BB]; omega); omega
  have lb : (digs b.natAbs).length < 2 ^ 20 := by have := digsZ_le (z := b) 2 (by simp only [BB]; omega); omega
  have ls : (digs (a + b).natAbs).length < 2 ^ 40 := by have := digsZ_le (z := a + b) 3 (by simp only [BB]; omega); omega
  have ld : (digs (a - b).natAbs).length < 2 ^ 40 := by have := digsZ_le (z := a - b) 3 (by simp only [BB]; omega); omega
  have lp : (digs (a * b).natAbs).length < 2 ^ 40 := by
    have := digsZ_le (z := a * b) 5 (by
      rw [Int.natAbs_mul]
      have h1 : a.natAbs ≤ 9223372036854775808 := by omega
      have h2 : b.natAbs ≤ 9223372036854775808 := by omega
      have := Nat.mul_le_mul h1 h2
      simp only [BB]; omega)
    omega
  have ln : (digs (-a).natAbs).length < 2 ^ 40 := by rw [Int.natAbs_neg]; omega
  simp only [go_sem, ↓reduceIte, reduceCtorEq, Nat.reduceLT, Nat.reduceLeDiff, Nat.reduceEqDiff, Nat.reduceMul, Nat.reduceAdd, Nat.reduceSub, Int.reduceLE, Int.reduceLT]
  refine aCall_of known_spec ?_
  simp only [go_sem, ↓reduceIte, reduceCtorEq, Nat.reduceLT, Nat.reduceLeDiff, Nat.reduceEqDiff, Nat.reduceMul, Nat.reduceAdd, Nat.reduceSub, Int.reduceLE, Int.reduceLT]
  refine aCall_of (whole_spec a ha.1 ha.2) ?_
  simp only [go_sem, ↓reduceIte, reduceCtorEq, Nat.reduceLT, Nat.reduceLeDiff, Nat.reduceEqDiff, Nat.reduceMul, Nat.reduceAdd, Nat.reduceSub, Int.reduceLE, Int.reduceLT]
  refine aCall_of (whole_spec b hb.1 hb.2) ?_
  simp only [go_sem, ↓reduceIte, reduceCtorEq, Nat.reduceLT, Nat.reduceLeDiff, Nat.reduceEqDiff, Nat.reduceMul, Nat.reduceAdd, Nat.reduceSub, Int.reduceLE, Int.reduceLT]
  refine aCall_of (add_spec a b ha hb) ?_
  simp only [go_sem, ↓reduceIte, reduceCtorEq, Nat.reduceLT, Nat.reduceLeDiff, Nat.reduceEqDiff, Nat.reduceMul, Nat.reduceAdd, Nat.reduceSub, Int.reduceLE, Int.reduceLT, amt]
  refine aCall_of (sub_spec a b ha hb) ?_
  simp only [go_sem, ↓reduceIte, reduceCtorEq, Nat.reduceLT, Nat.reduceLeDiff, Nat.reduceEqDiff, Nat.reduceMul, Nat.reduceAdd, Nat.reduceSub, Int.reduceLE, Int.reduceLT, amt]
  refine aCall_of (mul_spec a b ha hb) ?_
  simp only [go_sem, ↓reduceIte, reduceCtorEq, Nat.reduceLT, Nat.reduceLeDiff, Nat.reduceEqDiff, Nat.reduceMul, Nat.reduceAdd, Nat.reduceSub, Int.reduceLE, Int.reduceLT, amt]
  refine aCall_of (neg_spec a ha) ?_
  simp only [go_sem, ↓reduceIte, reduceCtorEq, Nat.reduceLT, Nat.reduceLeDiff, Nat.reduceEqDiff, Nat.reduceMul, Nat.reduceAdd, Nat.reduceSub, Int.reduceLE, Int.reduceLT, amt]
  have e64 : (2 : Int) ^ 64 = 18446744073709551616 := by decide
  refine ⟨fun h => ?_, fun h => ?_⟩
  all_goals
    refine aCall_of (plus_spec a b (by omega) (by omega)) ?_
    simp only [go_sem, ↓reduceIte, reduceCtorEq, Nat.reduceLT, Nat.reduceLeDiff, Nat.reduceEqDiff, Nat.reduceMul, Nat.reduceAdd, Nat.reduceSub, Int.reduceLE, Int.reduceLT]
    refine aCall_of (told_true (a + b) ls) ?_
    simp only [go_sem, ↓reduceIte, reduceCtorEq, Nat.reduceLT, Nat.reduceLeDiff, Nat.reduceEqDiff, Nat.reduceMul, Nat.reduceAdd, Nat.reduceSub, Int.reduceLE, Int.reduceLT, yes]
    refine aCall_of (less_spec a b (by omega) (by omega)) ?_
    simp only [go_sem, ↓reduceIte, reduceCtorEq, Nat.reduceLT, Nat.reduceLeDiff, Nat.reduceEqDiff, Nat.reduceMul, Nat.reduceAdd, Nat.reduceSub, Int.reduceLE, Int.reduceLT, yes]
    refine aCall_of (told_true (a - b) ld) ?_
    simp only [go_sem, ↓reduceIte, reduceCtorEq, Nat.reduceLT, Nat.reduceLeDiff, Nat.reduceEqDiff, Nat.reduceMul, Nat.reduceAdd, Nat.reduceSub, Int.reduceLE, Int.reduceLT, yes]
    refine aCall_of (times_spec a b la lb) ?_
    simp only [go_sem, ↓reduceIte, reduceCtorEq, Nat.reduceLT, Nat.reduceLeDiff, Nat.reduceEqDiff, Nat.reduceMul, Nat.reduceAdd, Nat.reduceSub, Int.reduceLE, Int.reduceLT, yes]
    refine aCall_of (told_true (a * b) lp) ?_
    simp only [go_sem, ↓reduceIte, reduceCtorEq, Nat.reduceLT, Nat.reduceLeDiff, Nat.reduceEqDiff, Nat.reduceMul, Nat.reduceAdd, Nat.reduceSub, Int.reduceLE, Int.reduceLT, yes]
    refine aCall_of (turned_spec a (by omega)) ?_
    simp only [go_sem, ↓reduceIte, reduceCtorEq, Nat.reduceLT, Nat.reduceLeDiff, Nat.reduceEqDiff, Nat.reduceMul, Nat.reduceAdd, Nat.reduceSub, Int.reduceLE, Int.reduceLT, yes]
    refine aCall_of (told_true (-a) ln) ?_
    simp only [go_sem, ↓reduceIte, reduceCtorEq, Nat.reduceLT, Nat.reduceLeDiff, Nat.reduceEqDiff, Nat.reduceMul, Nat.reduceAdd, Nat.reduceSub, Int.reduceLE, Int.reduceLT, yes]
    refine aCall_of (asize_spec a ha) ?_
    simp only [go_sem, ↓reduceIte, reduceCtorEq, Nat.reduceLT, Nat.reduceLeDiff, Nat.reduceEqDiff, Nat.reduceMul, Nat.reduceAdd, Nat.reduceSub, Int.reduceLE, Int.reduceLT, yes]
  · rw [show ((a.natAbs : Int) == IntKind.u64.wrap (0 - IntKind.u64.wrap a)) = true from beq_iff_eq.2 (by simp only [IntKind.wrap, IntKind.bits, IntKind.signed, e64, Bool.false_and, Bool.false_eq_true, if_false]; omega)]
  · rw [show ((a.natAbs : Int) == IntKind.u64.wrap a) = true from beq_iff_eq.2 (by simp only [IntKind.wrap, IntKind.bits, IntKind.signed, e64, Bool.false_and, Bool.false_eq_true, if_false]; omega)]
end Go.Ax
