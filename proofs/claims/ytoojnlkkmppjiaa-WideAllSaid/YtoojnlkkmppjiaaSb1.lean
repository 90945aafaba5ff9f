/- A part of the proof: Sb1. -/
import Derived.Test.YtoojnlkkmppjiaaSa9
set_option linter.unusedVariables false
set_option linter.unusedSimpArgs false
set_option linter.unusedSimpArgs false
set_option linter.unusedVariables false
namespace Go.Ax
open Go Go.Proofs
set_option maxRecDepth 100000
/-- Rows of int64s. -/
def rowsI (l : List Int) : List (List D) := l.map fun x => [.v (.int .i64 x)]
theorem length_rowsI (l : List Int) : (rowsI l).length = l.length := by simp [rowsI]
theorem getD_rowsI (l : List Int) (i : Nat) : (rowsI l).getD i [.v (.int .i64 0)] = [.v (.int .i64 (l[i]?.getD 0))] := by
  rw [List.getD_eq_getElem?_getD]
  simp only [rowsI, List.getElem?_map]
  cases l[i]? <;> rfl
theorem rowsI_len (l : List Int) : (∀ r ∈ rowsI l, r.length = 1) = True := by simp [rowsI]
attribute [go_sem] length_rowsI getD_rowsI rowsI_len
def I64 (x : Int) : Prop := -9223372036854775808 ≤ x ∧ x < 9223372036854775808
/-- The sum of the first n. -/
def sumI (l : List Int) (n : Nat) : Int := (l.take n).sum
theorem sumI_succ {l : List Int} {n : Nat} (h : n < l.length) : sumI l (n + 1) = sumI l n + l[n]?.getD 0 := by
  unfold sumI
  rw [List.take_succ_eq_append_getElem h, List.sum_append, List.getElem?_eq_getElem h]
  simp
theorem sh63 (x : Int) (h : I64 x) : x.fdiv (2 ^ min (Int.toNat 63) 64) = if x < 0 then -1 else 0 := by
  simp only [I64] at h
  rw [show min (Int.toNat 63) 64 = 63 by decide, show (2 : Int) ^ 63 = 9223372036854775808 by decide, Int.fdiv_eq_ediv_of_nonneg _ (by decide)]
  split <;> omega
theorem asum_spec (l : List Int) (hl : ∀ x ∈ l, I64 x) (hn : l.length < 2 ^ 40) : FSpec Try.prog 25 [(false, [.l (rowsI l)])] (amt l.sum) := by
  refine fspec_of aDraw (aDraw_ok mixed) Try.func25 rfl (by decide) [0, 2, 3, 4, 5, 7, 8, 9, 10, 11, 12] (rs := [.tmp 2, .tmp 3]) rfl (by decide) (n := 39) rfl (by simp) ?_
  simp only [go_sem, ↓reduceIte, reduceCtorEq, Nat.reduceLT, Nat.reduceLeDiff, Nat.reduceEqDiff, Nat.reduceMul, Nat.reduceAdd, Nat.reduceSub, Int.reduceLE, Int.reduceLT, amt]
  rw [aCode_loop]
  refine aLoop_of (α := Nat × Int × Nat × T × T × T) (fun p => ⟨39, [], [(0, .one (.l (rowsI l))), (2, .one (.v (.int .i64 0))), (3, .one (.v (.bool false))), (4, .one (.v (.int .i64 p.2.1))), (5, .one (.v (.int .u64 (p.2.2.1 : Nat)))), (7, p.2.2.2.1), (8, p.2.2.2.2.1), (9, p.2.2.2.2.2), (10, .one (.l (rowsI l))), (11, .one (.v (.int .i64 l.length))), (12, .one (.v (.int .i64 p.1)))]⟩)
    (fun p => p.1 ≤ l.length ∧ sumI l p.1 = p.2.1 * 18446744073709551616 + p.2.2.1 ∧ p.2.2.1 < 18446744073709551616 ∧ -(p.1 : Int) ≤ p.2.1 ∧ p.2.1 ≤ p.1) (fun p => l.length - p.1)
    (0, 0, 0, .none, .none, .none) ⟨Nat.zero_le _, by simp [sumI], by decide, by simp, by simp⟩ rfl (fun ⟨i, hi, lo, t7, t8, t9⟩ ⟨g1, g2, g3, g4, g5⟩ => ?_)
  simp only at g1 g2 g3 g4 g5
  simp only [go_sem, ↓reduceIte, reduceCtorEq, Nat.reduceLT, Nat.reduceLeDiff, Nat.reduceEqDiff, Nat.reduceMul, Nat.reduceAdd, Nat.reduceSub, Int.reduceLE, Int.reduceLT]
  refine ⟨fun h1 => ⟨by omega, h1, ?_⟩, fun h1 => ?_⟩
  · have hm : l[i]?.getD 0 ∈ l := by
      rw [List.getElem?_eq_getElem (by omega)]; exact List.getElem_mem _
    have hx := hl _ hm
    have hsum := sumI_succ (l := l) (n := i) (by omega)
    rw [Int.toNat_natCast]
    generalize l[i]?.getD 0 = x at *
    have e1 : (2 : Int) ^ 64 = 18446744073709551616 := by decide
    obtain ⟨u, hu, hu2⟩ : ∃ u : Nat, IntKind.u64.wrap x = (u : Int) ∧ (u < 18446744073709551616 ∧ ((0 ≤ x → x = u) ∧ (x < 0 → x = u - 18446744073709551616))) := by
      refine ⟨(IntKind.u64.wrap x).toNat, ?_⟩
      simp only [I64] at hx
      simp only [IntKind.wrap, IntKind.bits, IntKind.signed, e1, Bool.false_and, Bool.false_eq_true, if_false]
      omega
    rw [hu]
    refine aCall_of (add64_spec lo u 0 (by omega)) ?_
    simp only [go_sem, ↓reduceIte, reduceCtorEq, Nat.reduceLT, Nat.reduceLeDiff, Nat.reduceEqDiff, Nat.reduceMul, Nat.reduceAdd, Nat.reduceSub, Int.reduceLE, Int.reduceLT]
    rw [sh63 x hx]
    obtain ⟨hu3, hu4, hu5⟩ := hu2
    simp only [I64] at hx
    obtain ⟨sg, hsg, hsg2⟩ : ∃ sg : Int, (if x < 0 then (-1 : Int) else 0) = sg ∧ ((x < 0 → sg = -1) ∧ (0 ≤ x → sg = 0)) := ⟨_, rfl, by split <;> omega⟩
    rw [hsg, i64_wrap (hi + sg) (by omega) (by omega), i64_wrap (((lo + u + 0) / 18446744073709551616 : Nat) : Int) (by omega) (by omega), i64_wrap (hi + sg + (((lo + u + 0) / 18446744073709551616 : Nat) : Int)) (by omega) (by omega), i64_wrap ((i : Int) + 1) (by omega) (by omega)]
    refine Round.mk (i + 1, hi + sg + (((lo + u + 0) / 18446744073709551616 : Nat) : Int), (lo + u + 0) % 18446744073709551616, .one (.v (.int .i64 x)), .one (.v (.int .u64 (((lo + u + 0) % 18446744073709551616 : Nat) : Int))), .one (.v (.int .u64 (((lo + u + 0) / 18446744073709551616 : Nat) : Int)))) ⟨?_, ?_, ?_, ?_, ?_⟩ ?_ rfl
    · show i + 1 ≤ _; omega
    · show sumI l (i + 1) = (hi + sg + (((lo + u + 0) / 18446744073709551616 : Nat) : Int)) * 18446744073709551616 + (((lo + u + 0) % 18446744073709551616 : Nat) : Int)
      omega
    · show (lo + u + 0) % 18446744073709551616 < _; omega
    · show -((i + 1 : Nat) : Int) ≤ hi + sg + (((lo + u + 0) / 18446744073709551616 : Nat) : Int); omega
    · show hi + sg + (((lo + u + 0) / 18446744073709551616 : Nat) : Int) ≤ ((i + 1 : Nat) : Int); omega
    · show l.length - (i + 1) < l.length - i; omega
  · have hii : i = l.length := by omega
    subst hii
    have hsum : l.sum = hi * 18446744073709551616 + lo := by rw [← g2, sumI, List.take_length]
    obtain ⟨w1, w2, w3⟩ := i64_sum (lo : Int) (by omega)
    have hw : I64 (IntKind.i64.wrap (lo : Int)) := by
      unfold I64
      rcases Nat.lt_or_ge lo 9223372036854775808 with h | h
      · rw [w1 (by omega)]; omega
      · rw [w3 (by omega)]; omega
    rw [sh63 _ hw, hsum]
    rcases Nat.lt_or_ge lo 9223372036854775808 with h | h
    · rw [w1 (by omega), if_neg (by omega)]
      refine ⟨fun h2 => ?_, fun h2 => ?_⟩
      · obtain ⟨f1, f2⟩ := amt_no (z := hi * 18446744073709551616 + lo) (by omega); rw [f1, f2]
      · obtain ⟨f1, f2⟩ := amt_yes (z := hi * 18446744073709551616 + lo) (by omega); rw [f1, f2, h2]; simp
    · rw [w3 (by omega), if_pos (by omega)]
      refine ⟨fun h2 => ?_, fun h2 => ?_⟩
      · obtain ⟨f1, f2⟩ := amt_no (z := hi * 18446744073709551616 + lo) (by omega); rw [f1, f2]
      · obtain ⟨f1, f2⟩ := amt_yes (z := hi * 18446744073709551616 + lo) (by omega); rw [f1, f2, show hi * 18446744073709551616 + (lo : Int) = lo - 18446744073709551616 by omega]
end Go.Ax
