/- wide.size, signed, Mul, Times, Sum. -/
import Derived.Test.YtjmoeebaehjmnaaSd2
set_option linter.unusedVariables false
set_option linter.unusedSimpArgs false
set_option linter.unusedSimpArgs false
set_option linter.unusedVariables false
namespace Go.Ax
open Go Go.Proofs
set_option maxRecDepth 100000
theorem dec_wHi (z : Int) : decide (wHi z < 0) = decide (z < 0) := by simp only [wHi_neg]
/-- A number of a size, below 0 or not. -/
def sgnI (neg : Bool) (m : Int) : Int := if neg then -m else m
theorem sgnI_mul (a b : Int) : sgnI (!(decide (a < 0) == decide (b < 0))) ((a.natAbs : Int) * (b.natAbs : Int)) = a * b := by
  by_cases ha : a < 0 <;> by_cases hb : b < 0
  · rw [show (a.natAbs : Int) = -a by omega, show (b.natAbs : Int) = -b by omega]; simp [sgnI, ha, hb, Int.neg_mul_neg]
  · rw [show (a.natAbs : Int) = -a by omega, show (b.natAbs : Int) = b by omega]; simp [sgnI, ha, hb, Int.neg_mul]
  · rw [show (a.natAbs : Int) = a by omega, show (b.natAbs : Int) = -b by omega]; simp [sgnI, ha, hb, Int.mul_neg]
  · rw [show (a.natAbs : Int) = a by omega, show (b.natAbs : Int) = b by omega]; simp [sgnI, ha, hb]
end Go.Ax
