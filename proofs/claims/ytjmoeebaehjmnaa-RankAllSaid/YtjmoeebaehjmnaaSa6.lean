/- A part of the proof: Sa6. -/
import Derived.Test.YtjmoeebaehjmnaaSa5
set_option linter.unusedVariables false
set_option linter.unusedSimpArgs false
set_option linter.unusedSimpArgs false
set_option linter.unusedVariables false
namespace Go.Ax
open Go Go.Proofs
set_option maxRecDepth 100000
/-- Does an int64 hold it? -/
def fit (z : Int) : Bool := decide (-9223372036854775808 ≤ z ∧ z < 9223372036854775808)
def fitV (z : Int) : Int := if fit z = true then z else 0
/-- What an int64 can tell of a number. -/
def amt (z : Int) : List Comp := [.one (.d (.v (.int .i64 (fitV z)))), .one (.d (.v (.bool (fit z))))]
theorem amt_yes {z : Int} (h : -9223372036854775808 ≤ z ∧ z < 9223372036854775808) : fit z = true ∧ fitV z = z := by
  have : fit z = true := by simp [fit, h]
  exact ⟨this, by simp [fitV, this]⟩
theorem amt_no {z : Int} (h : ¬ (-9223372036854775808 ≤ z ∧ z < 9223372036854775808)) : fit z = false ∧ fitV z = 0 := by
  have : fit z = false := by simp only [fit, decide_eq_false_iff_not]; exact h
  exact ⟨this, by simp [fitV, this]⟩
theorem i64_sum (z : Int) (h : -18446744073709551616 ≤ z ∧ z < 18446744073709551616) : (-9223372036854775808 ≤ z ∧ z < 9223372036854775808 → IntKind.i64.wrap z = z) ∧ (z < -9223372036854775808 → IntKind.i64.wrap z = z + 18446744073709551616) ∧ (9223372036854775808 ≤ z → IntKind.i64.wrap z = z - 18446744073709551616) := by
  have e1 : (2 : Int) ^ 64 = 18446744073709551616 := by decide
  have e2 : (2 : Int) ^ (64 - 1) = 9223372036854775808 := by decide
  simp only [IntKind.wrap, IntKind.bits, IntKind.signed, e1, e2, Bool.true_and, decide_eq_true_eq]
  refine ⟨fun h => ?_, fun h => ?_, fun h => ?_⟩ <;> split <;> omega
theorem sub_spec (a b : Int) (ha : -9223372036854775808 ≤ a ∧ a < 9223372036854775808) (hb : -9223372036854775808 ≤ b ∧ b < 9223372036854775808) : FSpec Try.prog 92 [(false, [.v (.int .i64 a)]), (false, [.v (.int .i64 b)])] (amt (a - b)) := by
  refine fspec_of aDraw (aDraw_ok mixed) Try.func92 rfl (by decide) [0, 1, 4, 5, 6] (rs := [.tmp 4, .tmp 5]) rfl (by decide) (n := 23) rfl (by simp) ?_
  simp (maxSteps := 2000000) only [go_sem, ↓reduceIte, reduceCtorEq, Nat.reduceLT, Nat.reduceLeDiff, Nat.reduceEqDiff, Nat.reduceMul, Nat.reduceAdd, Nat.reduceSub, Int.reduceLE, Int.reduceLT, amt]
  obtain ⟨w1, w2, w3⟩ := i64_sum (a - b) (by omega)
  rcases Int.lt_or_le (a - b) (-9223372036854775808) with hz | hz
  · obtain ⟨f1, f2⟩ := amt_no (z := a - b) (by omega)
    rw [w2 hz, f1, f2]
    have h1 : a < 0 := by omega
    have h2 : ¬ b < 0 := by omega
    have h3 : ¬ a - b + 18446744073709551616 < 0 := by omega
    simp [h1, h2, h3]
  rcases Int.lt_or_le (a - b) 9223372036854775808 with hy | hy
  · obtain ⟨f1, f2⟩ := amt_yes (z := a - b) ⟨hz, hy⟩
    rw [w1 ⟨hz, hy⟩, f1, f2]
    by_cases h1 : a < 0 <;> by_cases h2 : b < 0 <;> by_cases h3 : a - b < 0 <;> simp [h1, h2, h3] <;> omega
  · obtain ⟨f1, f2⟩ := amt_no (z := a - b) (by omega)
    rw [w3 hy, f1, f2]
    have h1 : ¬ a < 0 := by omega
    have h2 : b < 0 := by omega
    have h3 : a - b - 18446744073709551616 < 0 := by omega
    simp [h1, h2, h3]
theorem neg_spec (a : Int) (ha : -9223372036854775808 ≤ a ∧ a < 9223372036854775808) : FSpec Try.prog 47 [(false, [.v (.int .i64 a)])] (amt (-a)) := by
  refine fspec_of aDraw (aDraw_ok mixed) Try.func47 rfl (by decide) [0, 2, 3] (rs := [.tmp 2, .tmp 3]) rfl (by decide) (n := 8) rfl (by simp) ?_
  simp (maxSteps := 2000000) only [go_sem, ↓reduceIte, reduceCtorEq, Nat.reduceLT, Nat.reduceLeDiff, Nat.reduceEqDiff, Nat.reduceMul, Nat.reduceAdd, Nat.reduceSub, Int.reduceLE, Int.reduceLT, amt]
  have h := sub_spec 0 a (by omega) ha
  refine aCall_of h ?_
  simp (maxSteps := 2000000) only [go_sem, ↓reduceIte, reduceCtorEq, Nat.reduceLT, Nat.reduceLeDiff, Nat.reduceEqDiff, Nat.reduceMul, Nat.reduceAdd, Nat.reduceSub, Int.reduceLE, Int.reduceLT, amt]
  rw [Int.zero_sub]
theorem asize_spec (a : Int) (ha : -9223372036854775808 ≤ a ∧ a < 9223372036854775808) : FSpec Try.prog 96 [(false, [.v (.int .i64 a)])] [.one (.d (.v (.int .u64 (a.natAbs : Int))))] := by
  refine fspec_of aDraw (aDraw_ok mixed) Try.func96 rfl (by decide) [0, 2] (rs := [.tmp 2]) rfl (by decide) (n := 10) rfl (by simp) ?_
  simp (maxSteps := 2000000) only [go_sem, ↓reduceIte, reduceCtorEq, Nat.reduceLT, Nat.reduceLeDiff, Nat.reduceEqDiff, Nat.reduceMul, Nat.reduceAdd, Nat.reduceSub, Int.reduceLE, Int.reduceLT]
  have e : (2 : Int) ^ 64 = 18446744073709551616 := by decide
  refine ⟨fun h => ?_, fun h => ?_⟩
  · have e2 : IntKind.u64.wrap (0 - IntKind.u64.wrap a) = (a.natAbs : Int) := by
      simp only [IntKind.wrap, IntKind.bits, IntKind.signed, e, Bool.false_and, Bool.false_eq_true, if_false]
      omega
    rw [e2]
  · have e2 : IntKind.u64.wrap a = (a.natAbs : Int) := by
      simp only [IntKind.wrap, IntKind.bits, IntKind.signed, e, Bool.false_and, Bool.false_eq_true, if_false]
      omega
    rw [e2]
end Go.Ax
