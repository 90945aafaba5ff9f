/- A part of the proof: Sa6. -/
import Derived.Test.YtmpbhgofllbejaaSa5
set_option linter.unusedVariables false
set_option linter.unusedSimpArgs false
set_option linter.unusedSimpArgs false
set_option linter.unusedVariables false
namespace Go.Ax
open Go Go.Proofs
set_option maxRecDepth 100000
/-- Does an int64 hold it? -/
def fit (z : Int) : Bool := decide (-9223372036854775808 ≤ z ∧ z < 9223372036854775808)
def fitV (z : Int) : Int := if fit z = true then z else 0
/-- What an int64 can tell of a number. -/
def amt (z : Int) : List Comp := [.one (.d (.v (.int .i64 (fitV z)))), .one (.d (.v (.bool (fit z))))]
theorem amt_yes {z : Int} (h : -9223372036854775808 ≤ z ∧ z < 9223372036854775808) : fit z = true ∧ fitV z = z := by
  have : fit z = true := by simp [fit, h]
  exact ⟨this, by simp [fitV, this]⟩
theorem amt_no {z : Int} (h : ¬ (-9223372036854775808 ≤ z ∧ z < 9223372036854775808)) : fit z = false ∧ fitV z = 0 := by
  have : fit z = false := by simp only [fit, decide_eq_false_iff_not]; exact h
  exact ⟨this, by simp [fitV, this]⟩
theorem i64_sum (z : Int) (h : -18446744073709551616 ≤ z ∧ z < 18446744073709551616) : (-9223372036854775808 ≤ z ∧ z < 9223372036854775808 → IntKind.i64.wrap z = z) ∧ (z < -9223372036854775808 → IntKind.i64.wrap z = z + 18446744073709551616) ∧ (9223372036854775808 ≤ z → IntKind.i64.wrap z = z - 18446744073709551616) := by
  have e1 : (2 : Int) ^ 64 = 18446744073709551616 := by decide
  have e2 : (2 : Int) ^ (64 - 1) = 9223372036854775808 := by decide
  simp only [IntKind.wrap, IntKind.bits, IntKind.signed, e1, e2, Bool.true_and, decide_eq_true_eq]
  refine ⟨fun h => ?_, fun h => ?_, fun h => ?_⟩ <;> split <;> omega
theorem asize_spec (a : Int) (ha : -9223372036854775808 ≤ a ∧ a < 9223372036854775808) : FSpec Try.prog 114 [(false, [.v (.int .i64 a)])] [.one (.d (.v (.int .u64 (a.natAbs : Int))))] := by
  refine fspec_of aDraw (aDraw_ok mixed) Try.func114 rfl (by decide) [0, 2] (rs := [.tmp 2]) rfl (by decide) (n := 10) rfl (by simp) ?_
  simp (maxSteps := 2000000) only [go_sem, p_kSeq, ↓reduceIte, reduceCtorEq, Nat.reduceLT, Nat.reduceLeDiff, Nat.reduceEqDiff, Nat.reduceMul, Nat.reduceAdd, Nat.reduceSub, Int.reduceLE, Int.reduceLT]
  have e : (2 : Int) ^ 64 = 18446744073709551616 := by decide
  refine ⟨fun h => ?_, fun h => ?_⟩
  · have e2 : IntKind.u64.wrap (0 - IntKind.u64.wrap a) = (a.natAbs : Int) := by
      simp only [IntKind.wrap, IntKind.bits, IntKind.signed, e, Bool.false_and, Bool.false_eq_true, if_false]
      omega
    rw [e2]
  · have e2 : IntKind.u64.wrap a = (a.natAbs : Int) := by
      simp only [IntKind.wrap, IntKind.bits, IntKind.signed, e, Bool.false_and, Bool.false_eq_true, if_false]
      omega
    rw [e2]
end Go.Ax
