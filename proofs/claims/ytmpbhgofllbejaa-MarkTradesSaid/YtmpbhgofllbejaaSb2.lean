/- A part of the proof: Sb2. -/
import Derived.Test.YtmpbhgofllbejaaSb1
set_option linter.unusedVariables false
set_option linter.unusedSimpArgs false
set_option linter.unusedSimpArgs false
set_option linter.unusedVariables false
namespace Go.Ax
open Go Go.Proofs
set_option maxRecDepth 100000
theorem sumI_bound {l : List Int} (hl : ∀ x ∈ l, I64 x) (i : Nat) (hi : i ≤ l.length) (hn : l.length < 2 ^ 20) : (sumI l i).natAbs < BB ^ 4 := by
  have h : (sumI l i).natAbs ≤ i * 9223372036854775808 := by
    induction i with
    | zero => simp [sumI]
    | succ i ih =>
      have hx : I64 (l[i]?.getD 0) := hl _ (by rw [List.getElem?_eq_getElem (by omega)]; exact List.getElem_mem _)
      have := ih (by omega)
      rw [sumI_succ (by omega)]
      simp only [I64] at hx
      omega
  have e : BB ^ 4 = 340282366920938463463374607431768211456 := by decide
  omega
end Go.Ax
