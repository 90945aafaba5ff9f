/- A part of the proof: Sa2. -/
import Derived.Test.YtmpbhgofllbejaaSa1
set_option linter.unusedVariables false
set_option linter.unusedSimpArgs false
set_option linter.unusedSimpArgs false
namespace Go.Ax
open Go Go.Proofs
set_option maxRecDepth 100000
/-- A whole number, as the document writes it. -/
def bigDs (z : Int) : List D := [.v (.bool (decide (z < 0))), .l (rowsU (digs z.natAbs))]
def sgn (neg : Bool) (n : Nat) : Int := if neg = true then -(n : Int) else n
theorem sgn_abs (neg : Bool) (n : Nat) : (sgn neg n).natAbs = n := by unfold sgn; split <;> simp
theorem digs_len_pos (n : Nat) : 0 < (digs n).length ↔ n ≠ 0 := by
  by_cases h : n = 0
  · subst h; rw [digs_zero]; simp
  · rw [digs_pos h]; simp [h]
theorem bigDs_neg (n : Nat) : [D.v (.bool (decide (((digs n).length : Int) > 0))), D.l (rowsU (digs n))] = bigDs (sgn true n) := by
  unfold bigDs
  rw [sgn_abs]
  have e : decide (((digs n).length : Int) > 0) = decide (sgn true n < 0) := by
    rw [decide_eq_decide]
    have := digs_len_pos n
    simp only [sgn, if_true]
    omega
  rw [e]
theorem bigDs_pos (n : Nat) : [D.v (.bool false), D.l (rowsU (digs n))] = bigDs (sgn false n) := by
  unfold bigDs
  rw [sgn_abs]
  have e : decide (sgn false n < 0) = false := by simp [sgn]
  rw [e]
theorem made_spec (neg : Bool) (ds : List Nat) (hd : ∀ d ∈ ds, d < BB) (hl : ds.length < 2 ^ 40) : FSpec Try.prog 116 [(false, [.v (.bool neg)]), (false, [.l (rowsU ds)])]
    [.agg (bigDs (sgn neg (valU ds)))] := by
  refine fspec_of aDraw (aDraw_ok mixed) Try.func116 rfl (by decide) [0, 1, 4] (rs := [.cell 4 76]) rfl (by decide) (n := 15) rfl (by simp) ?_
  simp (maxSteps := 2000000) only [go_sem, p_kSeq, ↓reduceIte, reduceCtorEq, Nat.reduceLT, Nat.reduceLeDiff, Nat.reduceEqDiff, Nat.reduceMul, Nat.reduceAdd, Nat.reduceSub, Int.reduceLE, Int.reduceLT]
  refine aCall_of (trim_spec ds hd hl) ?_
  simp (maxSteps := 2000000) only [go_sem, p_kSeq, ↓reduceIte, reduceCtorEq, Nat.reduceLT, Nat.reduceLeDiff, Nat.reduceEqDiff, Nat.reduceMul, Nat.reduceAdd, Nat.reduceSub, Int.reduceLE, Int.reduceLT]
  refine ⟨fun h => ?_, fun h => ?_⟩
  · subst h; rw [bigDs_neg]
  · subst h; rw [bigDs_pos]
attribute [go_sem] bigDs val_digs
theorem big_len (a : Int) (k : Nat) : (digs a.natAbs).length ≤ k ↔ a.natAbs < BB ^ k := digs_len _ _
theorem whole_spec (x : Int) (h1 : -9223372036854775808 ≤ x) (h2 : x < 9223372036854775808) : FSpec Try.prog 68 [(false, [.v (.int .i64 x)])] [.agg (bigDs x)] := by
  refine fspec_of aDraw (aDraw_ok mixed) Try.func68 rfl (by decide) [0, 2, 3] (rs := [.cell 2 76]) rfl (by decide) (n := 15) rfl (by simp) ?_
  simp (maxSteps := 2000000) only [go_sem, p_kSeq, ↓reduceIte, reduceCtorEq, Nat.reduceLT, Nat.reduceLeDiff, Nat.reduceEqDiff, Nat.reduceMul, Nat.reduceAdd, Nat.reduceSub, Int.reduceLE, Int.reduceLT]
  have hs := size_spec x.natAbs (by omega)
  have hl : (digs x.natAbs).length ≤ 2 := (digs_len _ _).2 (by simp only [BB]; omega)
  have hm := made_spec (decide (x < 0)) (digs x.natAbs) (digs_lt _) (by omega)
  have hx : sgn (decide (x < 0)) (valU (digs x.natAbs)) = x := by
    rw [val_digs]; unfold sgn; split <;> simp_all <;> omega
  rw [hx] at hm
  have e1 : ¬ x < 0 → IntKind.u64.wrap x = (x.natAbs : Int) := fun h => by
    have : x = (x.natAbs : Int) := by omega
    rw [this, wrap_u64]
    simp only [Int.natAbs_natCast]
    rw [Nat.mod_eq_of_lt (by omega)]
  have e2 : x < 0 → IntKind.u64.wrap (0 - IntKind.u64.wrap x) = (x.natAbs : Int) := fun h => by
    have e : (2 : Int) ^ 64 = 18446744073709551616 := by decide
    simp only [IntKind.wrap, IntKind.bits, IntKind.signed, e, Bool.false_and, Bool.false_eq_true, if_false]
    omega
  refine ⟨fun h => ?_, fun h => ?_⟩
  · rw [e2 h]
    refine aCall_of hs ?_
    simp (maxSteps := 2000000) only [go_sem, p_kSeq, ↓reduceIte, reduceCtorEq, Nat.reduceLT, Nat.reduceLeDiff, Nat.reduceEqDiff, Nat.reduceMul, Nat.reduceAdd, Nat.reduceSub, Int.reduceLE, Int.reduceLT]
    refine aCall_of hm ?_
    simp (maxSteps := 2000000) only [go_sem, p_kSeq, ↓reduceIte, reduceCtorEq, Nat.reduceLT, Nat.reduceLeDiff, Nat.reduceEqDiff, Nat.reduceMul, Nat.reduceAdd, Nat.reduceSub, Int.reduceLE, Int.reduceLT]
  · rw [e1 h]
    refine aCall_of hs ?_
    simp (maxSteps := 2000000) only [go_sem, p_kSeq, ↓reduceIte, reduceCtorEq, Nat.reduceLT, Nat.reduceLeDiff, Nat.reduceEqDiff, Nat.reduceMul, Nat.reduceAdd, Nat.reduceSub, Int.reduceLE, Int.reduceLT]
    refine aCall_of hm ?_
    simp (maxSteps := 2000000) only [go_sem, p_kSeq, ↓reduceIte, reduceCtorEq, Nat.reduceLT, Nat.reduceLeDiff, Nat.reduceEqDiff, Nat.reduceMul, Nat.reduceAdd, Nat.reduceSub, Int.reduceLE, Int.reduceLT]
theorem turned_spec (z : Int) (hl : (digs z.natAbs).length < 2 ^ 40) : FSpec Try.prog 82 [(true, bigDs z)] [.agg (bigDs (-z))] := by
  refine fspec_of aDraw (aDraw_ok mixed) Try.func82 rfl (by decide) [0, 1, 2] (rs := [.cell 2 76]) rfl (by decide) (n := 9) rfl (by simp) ?_
  simp (maxSteps := 2000000) only [go_sem, p_kSeq, ↓reduceIte, reduceCtorEq, Nat.reduceLT, Nat.reduceLeDiff, Nat.reduceEqDiff, Nat.reduceMul, Nat.reduceAdd, Nat.reduceSub, Int.reduceLE, Int.reduceLT]
  have hm := made_spec (!decide (z < 0)) (digs z.natAbs) (digs_lt _) (by omega)
  have hx : sgn (!decide (z < 0)) (valU (digs z.natAbs)) = -z := by
    rw [val_digs]; unfold sgn; split <;> simp_all <;> omega
  rw [hx] at hm
  refine aCall_of hm ?_
  simp (maxSteps := 2000000) only [go_sem, p_kSeq, ↓reduceIte, reduceCtorEq, Nat.reduceLT, Nat.reduceLeDiff, Nat.reduceEqDiff, Nat.reduceMul, Nat.reduceAdd, Nat.reduceSub, Int.reduceLE, Int.reduceLT]
end Go.Ax
