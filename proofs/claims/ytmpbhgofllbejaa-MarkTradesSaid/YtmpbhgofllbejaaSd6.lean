/- The reference's Over: a quotient rounded down, and the rest. -/
import Derived.Test.YtmpbhgofllbejaaSd5
set_option linter.unusedVariables false
set_option linter.unusedSimpArgs false
set_option linter.unusedSimpArgs false
set_option linter.unusedVariables false
namespace Go.Ax
open Go Go.Proofs
set_option maxRecDepth 100000
/-- The k lowest bits of n. -/
def btl (k n : Nat) : List Nat := (List.range k).map fun j => n / 2 ^ j % 2
theorem btl_len (k n : Nat) : (btl k n).length = k := by simp [btl]
theorem btl_succ (k n : Nat) : btl (k + 1) n = btl k n ++ [n / 2 ^ k % 2] := by simp [btl, List.range_succ]
theorem btl_get {k n j : Nat} (h : j < k) : (btl k n)[j]?.getD 0 = n / 2 ^ j % 2 := by simp [btl, h]
theorem len0 (n : Nat) : (digs n).length = 0 ↔ n = 0 := by
  have := digs_len n 0
  simp only [Nat.pow_zero] at this
  omega
theorem small_len {z : Int} {L X : Nat} (hX : BB ^ L = X) (h : z.natAbs < X * 4294967296) : (digs z.natAbs).length ≤ L + 1 := by
  refine (digs_len _ _).2 ?_
  rw [Nat.pow_succ, hX]
  exact h
theorem ed_unique {M d q r : Int} (hd : 0 < d) (h : M = d * q + r) (h1 : 0 ≤ r) (h2 : r < d) : M / d = q ∧ M % d = r := (Int.ediv_emod_unique hd).2 ⟨by omega, h1, h2⟩
theorem over_step {m d Q R bit : Int} (hd : 0 < d) (hQ : m / d = Q) (hR : m % d = R) (hb : 0 ≤ bit ∧ bit ≤ 1) : (d ≤ R + R + bit → (2 * m + bit) / d = Q + Q + 1 ∧ (2 * m + bit) % d = R + R + bit - d) ∧ (¬ d ≤ R + R + bit → (2 * m + bit) / d = Q + Q ∧ (2 * m + bit) % d = R + R + bit) := by
  have e := Int.mul_ediv_add_emod m d
  have r1 := Int.emod_nonneg m (by omega : d ≠ 0)
  have r2 := Int.emod_lt_of_pos m hd
  rw [hQ, hR] at e
  rw [hR] at r1 r2
  refine ⟨fun h => ed_unique hd ?_ (by omega) (by omega), fun h => ed_unique hd ?_ (by omega) (by omega)⟩
  · rw [Int.mul_add, Int.mul_add, Int.mul_one]; omega
  · rw [Int.mul_add]; omega
def bx (first : Bool) (z : Int) : List Leaf := match first with
  | true => [.d (.v (.bool false)), .own 0 []]
  | false => [.d (.v (.bool (decide (z < 0)))), .d (.l (rowsU (digs z.natAbs)))]
end Go.Ax
