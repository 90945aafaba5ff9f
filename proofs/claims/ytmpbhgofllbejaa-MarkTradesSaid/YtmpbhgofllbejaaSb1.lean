/- A part of the proof: Sb1. -/
import Derived.Test.YtmpbhgofllbejaaSa9
set_option linter.unusedVariables false
set_option linter.unusedSimpArgs false
set_option linter.unusedSimpArgs false
set_option linter.unusedVariables false
namespace Go.Ax
open Go Go.Proofs
set_option maxRecDepth 100000
/-- Rows of int64s. -/
def rowsI (l : List Int) : List (List D) := l.map fun x => [.v (.int .i64 x)]
theorem length_rowsI (l : List Int) : (rowsI l).length = l.length := by simp [rowsI]
theorem getD_rowsI (l : List Int) (i : Nat) : (rowsI l).getD i [.v (.int .i64 0)] = [.v (.int .i64 (l[i]?.getD 0))] := by
  rw [List.getD_eq_getElem?_getD]
  simp only [rowsI, List.getElem?_map]
  cases l[i]? <;> rfl
theorem rowsI_len (l : List Int) : (∀ r ∈ rowsI l, r.length = 1) = True := by simp [rowsI]
attribute [go_sem] length_rowsI getD_rowsI rowsI_len
def I64 (x : Int) : Prop := -9223372036854775808 ≤ x ∧ x < 9223372036854775808
/-- The sum of the first n. -/
def sumI (l : List Int) (n : Nat) : Int := (l.take n).sum
theorem sumI_succ {l : List Int} {n : Nat} (h : n < l.length) : sumI l (n + 1) = sumI l n + l[n]?.getD 0 := by
  unfold sumI
  rw [List.take_succ_eq_append_getElem h, List.sum_append, List.getElem?_eq_getElem h]
  simp
theorem sh63 (x : Int) (h : I64 x) : x.fdiv (2 ^ min (Int.toNat 63) 64) = if x < 0 then -1 else 0 := by
  simp only [I64] at h
  rw [show min (Int.toNat 63) 64 = 63 by decide, show (2 : Int) ^ 63 = 9223372036854775808 by decide, Int.fdiv_eq_ediv_of_nonneg _ (by decide)]
  split <;> omega
end Go.Ax
