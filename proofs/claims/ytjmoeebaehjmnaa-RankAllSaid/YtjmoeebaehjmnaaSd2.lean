/- wide.Of, Int, Cmp, Sign, Add, Sub, Neg, Abs. -/
import Derived.Test.YtjmoeebaehjmnaaSd1
set_option linter.unusedVariables false
set_option linter.unusedSimpArgs false
set_option linter.unusedSimpArgs false
set_option linter.unusedVariables false
namespace Go.Ax
open Go Go.Proofs
set_option maxRecDepth 100000
theorem wHi_of {x : Int} (h : I64 x) : wHi x = if x < 0 then -1 else 0 := by
  simp only [wHi, I64] at *
  split <;> omega
theorem of_spec (x : Int) (h : I64 x) : FSpec Try.prog 110 [(false, [.v (.int .i64 x)])] [.agg (wD x)] := by
  refine fspec_of aDraw (aDraw_ok mixed) Try.func110 rfl (by decide) [0, 2] (rs := [.cell 2 122]) rfl (by decide) (n := 8) rfl (by simp) ?_
  simp (maxSteps := 2000000) only [go_sem, ↓reduceIte, reduceCtorEq, Nat.reduceLT, Nat.reduceLeDiff, Nat.reduceEqDiff, Nat.reduceMul, Nat.reduceAdd, Nat.reduceSub, Int.reduceLE, Int.reduceLT]
  rw [sh63 x h, u64_mod, wD, wHi_of h]
  rfl
/-- Less, the same, more. -/
def cmpI (a b : Int) : Int := if a < b then -1 else if a = b then 0 else 1
theorem wcmp_spec (a b : Int) : FSpec Try.prog 109 [(true, wD a), (true, wD b)] [.one (.d (.v (.int .i64 (cmpI a b))))] := by
  refine fspec_of aDraw (aDraw_ok mixed) Try.func109 rfl (by decide) [0, 1, 2, 3, 4, 5, 23] (rs := [.tmp 4]) rfl (by decide) (n := 27) rfl (by simp) ?_
  simp (maxSteps := 2000000) only [go_sem, ↓reduceIte, reduceCtorEq, Nat.reduceLT, Nat.reduceLeDiff, Nat.reduceEqDiff, Nat.reduceMul, Nat.reduceAdd, Nat.reduceSub, Int.reduceLE, Int.reduceLT, wD]
  rw [wD_eq]
  have k1 : (a == b) = true ↔ a = b := by simp
  have k2 : (a == b) = false ↔ ¬ a = b := by simp
  rw [k1, k2]
  have lt : a < b ↔ wHi a < wHi b ∨ wHi a = wHi b ∧ wLo a < wLo b := by simp only [wHi, wLo]; omega
  have yes : a < b → cmpI a b = -1 := fun h => by simp [cmpI, h]
  have eq : a = b → cmpI a b = 0 := fun h => by simp [cmpI, h]
  have no : ¬ a < b → ¬ a = b → cmpI a b = 1 := fun h h2 => by simp [cmpI, h, h2]
  have l1 : a = b → wHi a = wHi b ∧ wLo a = wLo b := fun h => by rw [h]; exact ⟨rfl, rfl⟩
  refine ⟨fun h => ⟨fun _ => ?_, fun h2 => absurd h h2⟩, fun h => ⟨fun h2 => ⟨fun h3 => ?_, fun h3 => ⟨fun h4 => ?_, fun h4 => ?_⟩⟩, fun h2 => ⟨fun h4 => ?_, fun h4 => ?_⟩⟩⟩
  · rw [yes (lt.2 (.inl h))]
  · rw [yes (lt.2 (.inr ⟨h2, h3⟩))]
  · rw [eq h4]
  · rw [no (fun e => (lt.1 e).elim h (fun e => h3 e.2)) h4]
  · rw [eq h4]
  · rw [no (fun e => (lt.1 e).elim h (fun e => h2 e.1)) h4]
theorem wsign_spec (z : Int) : FSpec Try.prog 72 [(true, wD z)] [.one (.d (.v (.int .i64 (cmpI z 0))))] := by
  refine fspec_of aDraw (aDraw_ok mixed) Try.func72 rfl (by decide) [0, 1, 2] (rs := [.tmp 2]) rfl (by decide) (n := 6) rfl (by simp) ?_
  simp (maxSteps := 2000000) only [go_sem, ↓reduceIte, reduceCtorEq, Nat.reduceLT, Nat.reduceLeDiff, Nat.reduceEqDiff, Nat.reduceMul, Nat.reduceAdd, Nat.reduceSub, Int.reduceLE, Int.reduceLT, wD]
  refine aCall_of (wcmp_spec z 0) ?_
  simp (maxSteps := 2000000) only [go_sem, ↓reduceIte, reduceCtorEq, Nat.reduceLT, Nat.reduceLeDiff, Nat.reduceEqDiff, Nat.reduceMul, Nat.reduceAdd, Nat.reduceSub, Int.reduceLE, Int.reduceLT]
theorem add_words (a b : Int) : wLo (a + b) = (wLo a + wLo b + 0) % 18446744073709551616 ∧ IntKind.i64.wrap ((IntKind.u64.wrap (wHi a) + IntKind.u64.wrap (wHi b) + (wLo a + wLo b + 0) / 18446744073709551616) % 18446744073709551616) = IntKind.i64.wrap (wHi (a + b)) := by
  refine ⟨by simp only [wLo]; omega, ?_⟩
  rw [i64_mod, u64_mod, u64_mod, i64_wrap', i64_wrap']
  have : (wHi a % 18446744073709551616 + wHi b % 18446744073709551616 + (wLo a + wLo b + 0) / 18446744073709551616) % 18446744073709551616 = wHi (a + b) % 18446744073709551616 := by
    simp only [wHi, wLo]; omega
  rw [this]
theorem sub_words (a b : Int) : wLo (a - b) = (wLo a - wLo b - 0) % 18446744073709551616 ∧ IntKind.i64.wrap ((IntKind.u64.wrap (wHi a) - IntKind.u64.wrap (wHi b) - -((wLo a - wLo b - 0) / 18446744073709551616)) % 18446744073709551616) = IntKind.i64.wrap (wHi (a - b)) := by
  refine ⟨by simp only [wLo]; omega, ?_⟩
  rw [i64_mod, u64_mod, u64_mod, i64_wrap', i64_wrap']
  have : (wHi a % 18446744073709551616 - wHi b % 18446744073709551616 - -((wLo a - wLo b - 0) / 18446744073709551616)) % 18446744073709551616 = wHi (a - b) % 18446744073709551616 := by
    simp only [wHi, wLo]; omega
  rw [this]
theorem u64_lt (x : Int) : 0 ≤ IntKind.u64.wrap x ∧ IntKind.u64.wrap x < 18446744073709551616 := by rw [u64_mod]; omega
theorem hi_wrap {z : Int} (h : -340282366920938463463374607431768211456 ≤ z ∧ z < 340282366920938463463374607431768211456) : (Wid z → IntKind.i64.wrap (wHi z) = wHi z) ∧ (¬ Wid z → z < 0 → ¬ IntKind.i64.wrap (wHi z) < 0) ∧ (¬ Wid z → ¬ z < 0 → IntKind.i64.wrap (wHi z) < 0) := by
  obtain ⟨k, hk, l1, l2⟩ := i64_char (wHi z)
  generalize IntKind.i64.wrap (wHi z) = y at *
  simp only [Wid, wHi] at *
  refine ⟨fun h => ?_, fun h h2 => ?_, fun h h2 => ?_⟩ <;> omega
end Go.Ax
