/- known tells true. -/
import Derived.Test.YtmpbhgofllbejaaSb3
set_option linter.unusedVariables false
set_option linter.unusedSimpArgs false
set_option linter.unusedSimpArgs false
set_option linter.unusedVariables false
namespace Go.Ax
open Go Go.Proofs
set_option maxRecDepth 100000
theorem fit_of {z : Int} (h : I64 z) : fit z = true ∧ fitV z = z := amt_yes h
theorem fit_true {z : Int} (h : fit z = true) : I64 z := by
  by_cases hz : -9223372036854775808 ≤ z ∧ z < 9223372036854775808
  · exact hz
  · rw [(amt_no hz).1] at h; exact absurd h (by decide)
theorem bool_self (b : Bool) : (b == b) = true := by simp
theorem k1 : fitV (2 + 3) = 5 ∧ fit (2 + 3) = true ∧ fitV (-4 * 5) = -20 ∧ fit (-4 * 5) = true := by decide
theorem k2 : fitV ([9223372036854775807, 1, -1] : List Int).sum = 9223372036854775807 ∧ fit ([9223372036854775807, 1, -1] : List Int).sum = true := by decide
theorem k3 : fitV (2 - 5) = -3 ∧ fit (2 - 5) = true ∧ fitV (-7) = -7 ∧ fit (-7) = true ∧ fit (- -9223372036854775808) = false := by decide
end Go.Ax
