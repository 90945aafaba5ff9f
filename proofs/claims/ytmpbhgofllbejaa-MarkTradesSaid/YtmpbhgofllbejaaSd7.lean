/- The reference's ToWide; told; the helper's Wide. -/
import Derived.Test.YtmpbhgofllbejaaSd6
import Derived.Test.YtmpbhgofllbejaaLibF
set_option linter.unusedVariables false
set_option linter.unusedSimpArgs false
set_option linter.unusedSimpArgs false
set_option linter.unusedVariables false
namespace Go.Ax
open Go Go.Proofs
set_option maxRecDepth 100000
/-- The helper: is this Wide that number? -/
theorem hwide_spec (w z : Int) (hw : Wid w) (L : Nat) (hL4 : 4 ≤ L) (hL : L < 2 ^ 19) (hz : z.natAbs < BB ^ L) : FSpec Try.prog 39 [(true, wD w), (true, bigDs z)] [.one (.d (.v (.bool (decide (w = z)))))] := by
  refine fspec_of aDraw (aDraw_ok mixed) Try.func39 rfl (by decide) [0, 1, 2, 3, 4] (rs := [.tmp 4]) rfl (by decide) (n := 10) rfl (by simp) ?_
  have h4 : BB ^ 4 ≤ BB ^ L := Nat.pow_le_pow_right BB_pos hL4
  have h4' : BB ^ 4 = 340282366920938463463374607431768211456 := by decide
  generalize hX : BB ^ L = X at *
  have lw : (digs w.natAbs).length ≤ L := (digs_len _ _).2 (by rw [hX]; simp only [Wid] at hw; omega)
  have lz : (digs z.natAbs).length ≤ L := (digs_len _ _).2 (by rw [hX]; omega)
  have ld : (digs (w - z).natAbs).length ≤ L + 1 := small_len hX (by simp only [Wid] at hw; omega)
  simp (maxSteps := 2000000) only [go_sem, p_kSeq, ↓reduceIte, reduceCtorEq, Nat.reduceLT, Nat.reduceLeDiff, Nat.reduceEqDiff, Nat.reduceMul, Nat.reduceAdd, Nat.reduceSub, Int.reduceLE, Int.reduceLT, wD]
  refine aCall_of (rwide_spec w hw) ?_
  simp (maxSteps := 2000000) only [go_sem, p_kSeq, ↓reduceIte, reduceCtorEq, Nat.reduceLT, Nat.reduceLeDiff, Nat.reduceEqDiff, Nat.reduceMul, Nat.reduceAdd, Nat.reduceSub, Int.reduceLE, Int.reduceLT]
  refine aCall_of (rcmp_spec w z (by omega) (by omega) (by omega)) ?_
  simp (maxSteps := 2000000) only [go_sem, p_kSeq, ↓reduceIte, reduceCtorEq, Nat.reduceLT, Nat.reduceLeDiff, Nat.reduceEqDiff, Nat.reduceMul, Nat.reduceAdd, Nat.reduceSub, Int.reduceLE, Int.reduceLT]
  have : (cmpI w z == 0) = decide (w = z) := by
    unfold cmpI
    by_cases h1 : w < z
    · rw [if_pos h1, decide_eq_false (by omega)]; rfl
    · rw [if_neg h1]
      by_cases h2 : w = z
      · rw [if_pos h2, decide_eq_true h2]; rfl
      · rw [if_neg h2, decide_eq_false h2]; rfl
  rw [this]
  exact ⟨by kernel_rfl, rfl⟩
end Go.Ax
