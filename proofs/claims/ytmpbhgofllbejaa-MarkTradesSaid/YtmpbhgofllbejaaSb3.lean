/- A part of the proof: Sb3. -/
import Derived.Test.YtmpbhgofllbejaaSb2
set_option linter.unusedVariables false
set_option linter.unusedSimpArgs false
set_option linter.unusedSimpArgs false
set_option linter.unusedVariables false
namespace Go.Ax
open Go Go.Proofs
set_option maxRecDepth 100000
/-- Where the least of the first n stands. -/
def leastI (l : List Int) : Nat → Nat
  | 0 => 0
  | n + 1 => if l[n]?.getD 0 < l[leastI l n]?.getD 0 then n else leastI l n
theorem leastI_lt (l : List Int) (n : Nat) (h : 0 < n) : leastI l n < n := by
  induction n with
  | zero => omega
  | succ n ih =>
    simp only [leastI]
    split
    · omega
    · rcases Nat.eq_zero_or_pos n with h0 | h0
      · subst h0; simp [leastI]
      · have := ih h0; omega
end Go.Ax
