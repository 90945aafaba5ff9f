/- A part of the proof: Sb3. -/
import Derived.Test.YtoojnlkkmppjiaaSb2
set_option linter.unusedVariables false
set_option linter.unusedSimpArgs false
set_option linter.unusedSimpArgs false
set_option linter.unusedVariables false
namespace Go.Ax
open Go Go.Proofs
set_option maxRecDepth 100000
/-- Where the least of the first n stands. -/
def leastI (l : List Int) : Nat → Nat
  | 0 => 0
  | n + 1 => if l[n]?.getD 0 < l[leastI l n]?.getD 0 then n else leastI l n
theorem leastI_lt (l : List Int) (n : Nat) (h : 0 < n) : leastI l n < n := by
  induction n with
  | zero => omega
  | succ n ih =>
    simp only [leastI]
    split
    · omega
    · rcases Nat.eq_zero_or_pos n with h0 | h0
      · subst h0; simp [leastI]
      · have := ih h0; omega
theorem least_spec (l : List Int) (hn : l.length < 2 ^ 40) : FSpec Try.prog 26 [(false, [.l (rowsI l)])] [.one (.d (.v (.int .i64 (leastI l l.length)))), .one (.d (.v (.bool (decide (0 < l.length)))))] := by
  refine fspec_of aDraw (aDraw_ok mixed) Try.func26 rfl (by decide) [0, 2, 3, 4, 5, 6, 10, 11, 12] (rs := [.tmp 2, .tmp 3]) rfl (by decide) (n := 26) rfl (by simp) ?_
  simp only [go_sem, ↓reduceIte, reduceCtorEq, Nat.reduceLT, Nat.reduceLeDiff, Nat.reduceEqDiff, Nat.reduceMul, Nat.reduceAdd, Nat.reduceSub, Int.reduceLE, Int.reduceLT]
  rw [aCode_loop]
  refine ⟨fun h => ?_, fun h => ?_⟩
  · have : l.length = 0 := by omega
    rw [this]; rfl
  refine aLoop_of (α := Nat × T × T) (fun p => ⟨26, [], [(0, .one (.l (rowsI l))), (2, .one (.v (.int .i64 0))), (3, .one (.v (.bool false))), (4, .one (.v (.int .i64 (leastI l p.1)))), (5, p.2.1), (6, p.2.2), (10, .one (.l (rowsI l))), (11, .one (.v (.int .i64 l.length))), (12, .one (.v (.int .i64 p.1)))]⟩)
    (fun p => p.1 ≤ l.length) (fun p => l.length - p.1) (0, .none, .none) (Nat.zero_le _) rfl (fun ⟨i, t5, t6⟩ g1 => ?_)
  simp only at g1
  simp only [go_sem, ↓reduceIte, reduceCtorEq, Nat.reduceLT, Nat.reduceLeDiff, Nat.reduceEqDiff, Nat.reduceMul, Nat.reduceAdd, Nat.reduceSub, Int.reduceLE, Int.reduceLT]
  refine ⟨fun h1 => ?_, fun h1 => ?_⟩
  · have hlt : leastI l i < l.length := by
      rcases Nat.eq_zero_or_pos i with h0 | h0
      · subst h0; simp only [leastI]; omega
      · have := leastI_lt l i h0; omega
    refine ⟨by omega, h1, by omega, by omega, fun h2 => ?_, fun h2 => ?_⟩
    · simp only [Int.toNat_natCast] at h2
      refine Round.mk (i + 1, .one (.v (.int .i64 i)), .one (.v (.int .i64 (l[i]?.getD 0)))) (by show i + 1 ≤ _; omega) (by show _ - (i + 1) < _ - i; omega) ?_
      simp only [S.shut, i64_wrap ((i : Int) + 1) (by omega) (by omega), leastI, if_pos h2, Int.toNat_natCast]
      rfl
    · simp only [Int.toNat_natCast] at h2
      refine Round.mk (i + 1, .one (.v (.int .i64 i)), .one (.v (.int .i64 (l[i]?.getD 0)))) (by show i + 1 ≤ _; omega) (by show _ - (i + 1) < _ - i; omega) ?_
      simp only [S.shut, i64_wrap ((i : Int) + 1) (by omega) (by omega), leastI, if_neg h2, Int.toNat_natCast]
      rfl
  · have hii : i = l.length := by omega
    subst hii
    have : decide (0 < l.length) = true := by simp; omega
    rw [this]
end Go.Ax
