/- wide.Of, Int, Cmp, Sign, Add, Sub, Neg, Abs. -/
import Derived.Test.YtmpbhgofllbejaaSd1
set_option linter.unusedVariables false
set_option linter.unusedSimpArgs false
set_option linter.unusedSimpArgs false
set_option linter.unusedVariables false
namespace Go.Ax
open Go Go.Proofs
set_option maxRecDepth 100000
theorem wHi_of {x : Int} (h : I64 x) : wHi x = if x < 0 then -1 else 0 := by
  simp only [wHi, I64] at *
  split <;> omega
theorem of_spec (x : Int) (h : I64 x) : FSpec Try.prog 62 [(false, [.v (.int .i64 x)])] [.agg (wD x)] := by
  refine fspec_of aDraw (aDraw_ok mixed) Try.func62 rfl (by decide) [0, 2] (rs := [.cell 2 59]) rfl (by decide) (n := 8) rfl (by simp) ?_
  simp (maxSteps := 2000000) only [go_sem, p_kSeq, ↓reduceIte, reduceCtorEq, Nat.reduceLT, Nat.reduceLeDiff, Nat.reduceEqDiff, Nat.reduceMul, Nat.reduceAdd, Nat.reduceSub, Int.reduceLE, Int.reduceLT]
  rw [sh63 x h, u64_mod, wD, wHi_of h]
  rfl
theorem wint_spec (z : Int) (h : Wid z) : FSpec Try.prog 74 [(true, wD z)] (amt z) := by
  refine fspec_of aDraw (aDraw_ok mixed) Try.func74 rfl (by decide) [0, 1, 2, 3] (rs := [.tmp 2, .tmp 3]) rfl (by decide) (n := 14) rfl (by simp) ?_
  simp (maxSteps := 2000000) only [go_sem, p_kSeq, ↓reduceIte, reduceCtorEq, Nat.reduceLT, Nat.reduceLeDiff, Nat.reduceEqDiff, Nat.reduceMul, Nat.reduceAdd, Nat.reduceSub, Int.reduceLE, Int.reduceLT, wD]
  have hl := wLo_lt z
  obtain ⟨k, hk, l1, l2⟩ := i64_char (wLo z)
  rw [sh63 _ ⟨l1, l2⟩]
  generalize IntKind.i64.wrap (wLo z) = y at *
  have key : (wHi z = if y < 0 then -1 else 0) ↔ I64 z := by
    simp only [I64, wHi, wLo] at *
    by_cases hy : y < 0
    · rw [if_pos hy]; omega
    · rw [if_neg hy]; omega
  refine ⟨fun h1 => ?_, fun h1 => ?_⟩
  · have := fun e => h1 (key.2 e)
    simp only [amt]
    rw [(amt_no this).1, (amt_no this).2]
  · have hz := key.1 h1
    simp only [amt]
    rw [(amt_yes hz).1, (amt_yes hz).2]
    have : y = z := by
      simp only [I64, wLo] at *
      omega
    rw [this]
/-- Less, the same, more. -/
def cmpI (a b : Int) : Int := if a < b then -1 else if a = b then 0 else 1
theorem wcmp_spec (a b : Int) : FSpec Try.prog 97 [(true, wD a), (true, wD b)] [.one (.d (.v (.int .i64 (cmpI a b))))] := by
  refine fspec_of aDraw (aDraw_ok mixed) Try.func97 rfl (by decide) [0, 1, 2, 3, 4, 5, 23] (rs := [.tmp 4]) rfl (by decide) (n := 27) rfl (by simp) ?_
  simp (maxSteps := 2000000) only [go_sem, p_kSeq, ↓reduceIte, reduceCtorEq, Nat.reduceLT, Nat.reduceLeDiff, Nat.reduceEqDiff, Nat.reduceMul, Nat.reduceAdd, Nat.reduceSub, Int.reduceLE, Int.reduceLT, wD]
  rw [wD_eq]
  have k1 : (a == b) = true ↔ a = b := by simp
  have k2 : (a == b) = false ↔ ¬ a = b := by simp
  rw [k1, k2]
  have lt : a < b ↔ wHi a < wHi b ∨ wHi a = wHi b ∧ wLo a < wLo b := by simp only [wHi, wLo]; omega
  have yes : a < b → cmpI a b = -1 := fun h => by simp [cmpI, h]
  have eq : a = b → cmpI a b = 0 := fun h => by simp [cmpI, h]
  have no : ¬ a < b → ¬ a = b → cmpI a b = 1 := fun h h2 => by simp [cmpI, h, h2]
  have l1 : a = b → wHi a = wHi b ∧ wLo a = wLo b := fun h => by rw [h]; exact ⟨rfl, rfl⟩
  refine ⟨fun h => ⟨fun _ => ?_, fun h2 => absurd h h2⟩, fun h => ⟨fun h2 => ⟨fun h3 => ?_, fun h3 => ⟨fun h4 => ?_, fun h4 => ?_⟩⟩, fun h2 => ⟨fun h4 => ?_, fun h4 => ?_⟩⟩⟩
  · rw [yes (lt.2 (.inl h))]
  · rw [yes (lt.2 (.inr ⟨h2, h3⟩))]
  · rw [eq h4]
  · rw [no (fun e => (lt.1 e).elim h (fun e => h3 e.2)) h4]
  · rw [eq h4]
  · rw [no (fun e => (lt.1 e).elim h (fun e => h2 e.1)) h4]
theorem wsign_spec (z : Int) : FSpec Try.prog 111 [(true, wD z)] [.one (.d (.v (.int .i64 (cmpI z 0))))] := by
  refine fspec_of aDraw (aDraw_ok mixed) Try.func111 rfl (by decide) [0, 1, 2] (rs := [.tmp 2]) rfl (by decide) (n := 6) rfl (by simp) ?_
  simp (maxSteps := 2000000) only [go_sem, p_kSeq, ↓reduceIte, reduceCtorEq, Nat.reduceLT, Nat.reduceLeDiff, Nat.reduceEqDiff, Nat.reduceMul, Nat.reduceAdd, Nat.reduceSub, Int.reduceLE, Int.reduceLT, wD]
  refine aCall_of (wcmp_spec z 0) ?_
  simp (maxSteps := 2000000) only [go_sem, p_kSeq, ↓reduceIte, reduceCtorEq, Nat.reduceLT, Nat.reduceLeDiff, Nat.reduceEqDiff, Nat.reduceMul, Nat.reduceAdd, Nat.reduceSub, Int.reduceLE, Int.reduceLT]
theorem add_words (a b : Int) : wLo (a + b) = (wLo a + wLo b + 0) % 18446744073709551616 ∧ IntKind.i64.wrap ((IntKind.u64.wrap (wHi a) + IntKind.u64.wrap (wHi b) + (wLo a + wLo b + 0) / 18446744073709551616) % 18446744073709551616) = IntKind.i64.wrap (wHi (a + b)) := by
  refine ⟨by simp only [wLo]; omega, ?_⟩
  rw [i64_mod, u64_mod, u64_mod, i64_wrap', i64_wrap']
  have : (wHi a % 18446744073709551616 + wHi b % 18446744073709551616 + (wLo a + wLo b + 0) / 18446744073709551616) % 18446744073709551616 = wHi (a + b) % 18446744073709551616 := by
    simp only [wHi, wLo]; omega
  rw [this]
theorem sub_words (a b : Int) : wLo (a - b) = (wLo a - wLo b - 0) % 18446744073709551616 ∧ IntKind.i64.wrap ((IntKind.u64.wrap (wHi a) - IntKind.u64.wrap (wHi b) - -((wLo a - wLo b - 0) / 18446744073709551616)) % 18446744073709551616) = IntKind.i64.wrap (wHi (a - b)) := by
  refine ⟨by simp only [wLo]; omega, ?_⟩
  rw [i64_mod, u64_mod, u64_mod, i64_wrap', i64_wrap']
  have : (wHi a % 18446744073709551616 - wHi b % 18446744073709551616 - -((wLo a - wLo b - 0) / 18446744073709551616)) % 18446744073709551616 = wHi (a - b) % 18446744073709551616 := by
    simp only [wHi, wLo]; omega
  rw [this]
theorem u64_lt (x : Int) : 0 ≤ IntKind.u64.wrap x ∧ IntKind.u64.wrap x < 18446744073709551616 := by rw [u64_mod]; omega
theorem hi_wrap {z : Int} (h : -340282366920938463463374607431768211456 ≤ z ∧ z < 340282366920938463463374607431768211456) : (Wid z → IntKind.i64.wrap (wHi z) = wHi z) ∧ (¬ Wid z → z < 0 → ¬ IntKind.i64.wrap (wHi z) < 0) ∧ (¬ Wid z → ¬ z < 0 → IntKind.i64.wrap (wHi z) < 0) := by
  obtain ⟨k, hk, l1, l2⟩ := i64_char (wHi z)
  generalize IntKind.i64.wrap (wHi z) = y at *
  simp only [Wid, wHi] at *
  refine ⟨fun h => ?_, fun h h2 => ?_, fun h h2 => ?_⟩ <;> omega
theorem wadd_spec (a b : Int) (ha : Wid a) (hb : Wid b) : FSpec Try.prog 27 [(true, wD a), (true, wD b)] (wAns (a + b)) := by
  refine fspec_of aDraw (aDraw_ok mixed) Try.func27 rfl (by decide) [0, 1, 2, 3, 4, 5, 6, 7, 8, 9, 10] (rs := [.cell 4 59, .tmp 5]) rfl (by decide) (n := 52) rfl (by simp) ?_
  have la := wLo_lt a
  have lb := wLo_lt b
  obtain ⟨e1, e2⟩ := add_words a b
  simp (maxSteps := 2000000) only [go_sem, p_kSeq, ↓reduceIte, reduceCtorEq, Nat.reduceLT, Nat.reduceLeDiff, Nat.reduceEqDiff, Nat.reduceMul, Nat.reduceAdd, Nat.reduceSub, Int.reduceLE, Int.reduceLT, wD]
  refine aCall_of (add64I (wLo a) (wLo b) 0 (wLo_lt a).1 (wLo_lt b).1 (wLo_lt a).2 (wLo_lt b).2 (by omega) (by omega)) ?_
  simp (maxSteps := 2000000) only [go_sem, p_kSeq, ↓reduceIte, reduceCtorEq, Nat.reduceLT, Nat.reduceLeDiff, Nat.reduceEqDiff, Nat.reduceMul, Nat.reduceAdd, Nat.reduceSub, Int.reduceLE, Int.reduceLT]
  refine aCall_of (add64I (IntKind.u64.wrap (wHi a)) (IntKind.u64.wrap (wHi b)) ((wLo a + wLo b + 0) / 18446744073709551616) (u64_lt _).1 (u64_lt _).1 (u64_lt _).2 (u64_lt _).2 (by omega) (by omega)) ?_
  simp (maxSteps := 2000000) only [go_sem, p_kSeq, ↓reduceIte, reduceCtorEq, Nat.reduceLT, Nat.reduceLeDiff, Nat.reduceEqDiff, Nat.reduceMul, Nat.reduceAdd, Nat.reduceSub, Int.reduceLE, Int.reduceLT]
  rw [e2, ← e1]
  have hr : -340282366920938463463374607431768211456 ≤ a + b ∧ a + b < 340282366920938463463374607431768211456 := by simp only [Wid] at ha hb; omega
  obtain ⟨k1, k2, k3⟩ := hi_wrap hr
  have sa : decide (wHi a < 0) = decide (a < 0) := by simp only [wHi_neg]
  have sb : decide (wHi b < 0) = decide (b < 0) := by simp only [wHi_neg]
  rw [sa, sb]
  simp only [Wid] at ha hb k1 k2 k3
  by_cases hw : Wid (a + b)
  · rw [wAns_yes hw, k1 hw, wD]
    have sc : decide (wHi (a + b) < 0) = decide (a + b < 0) := by simp only [wHi_neg]
    rw [sc]
    refine ⟨fun h => ⟨fun h1 => ?_, fun h1 => rfl⟩, fun h => rfl⟩
    exfalso
    by_cases a0 : a < 0 <;> by_cases b0 : b < 0 <;> by_cases c0 : a + b < 0 <;> simp [a0, b0, c0] at h h1 <;> omega
  · rw [wAns_no hw]
    simp only [Wid] at hw
    by_cases c0 : a + b < 0
    · have := k2 hw c0
      have a0 : a < 0 := by omega
      have b0 : b < 0 := by omega
      simp [this, a0, b0, wD_zero]
    · have := k3 hw c0
      have a0 : ¬ a < 0 := by omega
      have b0 : ¬ b < 0 := by omega
      simp [this, a0, b0, wD_zero]
theorem wsub_spec (a b : Int) (ha : Wid a) (hb : Wid b) : FSpec Try.prog 125 [(true, wD a), (true, wD b)] (wAns (a - b)) := by
  refine fspec_of aDraw (aDraw_ok mixed) Try.func125 rfl (by decide) [0, 1, 2, 3, 4, 5, 6, 7, 8, 9, 10] (rs := [.cell 4 59, .tmp 5]) rfl (by decide) (n := 52) rfl (by simp) ?_
  have la := wLo_lt a
  have lb := wLo_lt b
  obtain ⟨e1, e2⟩ := sub_words a b
  simp (maxSteps := 2000000) only [go_sem, p_kSeq, ↓reduceIte, reduceCtorEq, Nat.reduceLT, Nat.reduceLeDiff, Nat.reduceEqDiff, Nat.reduceMul, Nat.reduceAdd, Nat.reduceSub, Int.reduceLE, Int.reduceLT, wD]
  refine aCall_of (sub64I (wLo a) (wLo b) 0 (wLo_lt a).1 (wLo_lt b).1 (wLo_lt a).2 (wLo_lt b).2 (by omega) (by omega)) ?_
  simp (maxSteps := 2000000) only [go_sem, p_kSeq, ↓reduceIte, reduceCtorEq, Nat.reduceLT, Nat.reduceLeDiff, Nat.reduceEqDiff, Nat.reduceMul, Nat.reduceAdd, Nat.reduceSub, Int.reduceLE, Int.reduceLT]
  refine aCall_of (sub64I (IntKind.u64.wrap (wHi a)) (IntKind.u64.wrap (wHi b)) (-((wLo a - wLo b - 0) / 18446744073709551616)) (u64_lt _).1 (u64_lt _).1 (u64_lt _).2 (u64_lt _).2 (by omega) (by omega)) ?_
  simp (maxSteps := 2000000) only [go_sem, p_kSeq, ↓reduceIte, reduceCtorEq, Nat.reduceLT, Nat.reduceLeDiff, Nat.reduceEqDiff, Nat.reduceMul, Nat.reduceAdd, Nat.reduceSub, Int.reduceLE, Int.reduceLT]
  rw [e2, ← e1]
  have hr : -340282366920938463463374607431768211456 ≤ a - b ∧ a - b < 340282366920938463463374607431768211456 := by simp only [Wid] at ha hb; omega
  obtain ⟨k1, k2, k3⟩ := hi_wrap hr
  have sa : decide (wHi a < 0) = decide (a < 0) := by simp only [wHi_neg]
  have sb : decide (wHi b < 0) = decide (b < 0) := by simp only [wHi_neg]
  rw [sa, sb]
  simp only [Wid] at ha hb k1 k2 k3
  by_cases hw : Wid (a - b)
  · rw [wAns_yes hw, k1 hw, wD]
    have sc : decide (wHi (a - b) < 0) = decide (a - b < 0) := by simp only [wHi_neg]
    rw [sc]
    by_cases a0 : a < 0 <;> by_cases b0 : b < 0 <;> by_cases c0 : a - b < 0 <;> simp [a0, b0, c0] <;> omega
  · rw [wAns_no hw]
    simp only [Wid] at hw
    by_cases c0 : a - b < 0
    · have := k2 hw c0
      have a0 : a < 0 := by omega
      have b0 : ¬ b < 0 := by omega
      simp [this, a0, b0, wD_zero]
    · have := k3 hw c0
      have a0 : ¬ a < 0 := by omega
      have b0 : b < 0 := by omega
      simp [this, a0, b0, wD_zero]
theorem wneg_spec (z : Int) (h : Wid z) : FSpec Try.prog 102 [(true, wD z)] (wAns (-z)) := by
  refine fspec_of aDraw (aDraw_ok mixed) Try.func102 rfl (by decide) [0, 1, 2, 3] (rs := [.cell 2 59, .tmp 3]) rfl (by decide) (n := 9) rfl (by simp) ?_
  have hs := wsub_spec 0 z (by simp [Wid]) h
  rw [Int.zero_sub, wD_zero] at hs
  simp (maxSteps := 2000000) only [go_sem, p_kSeq, ↓reduceIte, reduceCtorEq, Nat.reduceLT, Nat.reduceLeDiff, Nat.reduceEqDiff, Nat.reduceMul, Nat.reduceAdd, Nat.reduceSub, Int.reduceLE, Int.reduceLT, wD]
  refine aCall_of hs ?_
  simp (maxSteps := 2000000) only [go_sem, p_kSeq, ↓reduceIte, reduceCtorEq, Nat.reduceLT, Nat.reduceLeDiff, Nat.reduceEqDiff, Nat.reduceMul, Nat.reduceAdd, Nat.reduceSub, Int.reduceLE, Int.reduceLT, wAns, wD]
theorem wabs_spec (z : Int) (h : Wid z) : FSpec Try.prog 126 [(true, wD z)] (wAns (z.natAbs : Int)) := by
  refine fspec_of aDraw (aDraw_ok mixed) Try.func126 rfl (by decide) [0, 1, 2, 3] (rs := [.cell 2 59, .tmp 3]) rfl (by decide) (n := 12) rfl (by simp) ?_
  simp (maxSteps := 2000000) only [go_sem, p_kSeq, ↓reduceIte, reduceCtorEq, Nat.reduceLT, Nat.reduceLeDiff, Nat.reduceEqDiff, Nat.reduceMul, Nat.reduceAdd, Nat.reduceSub, Int.reduceLE, Int.reduceLT, wD]
  rw [wHi_neg]
  refine ⟨fun h1 => ?_, fun h1 => ?_⟩
  · refine aCall_of (wneg_spec z h) ?_
    rw [show (z.natAbs : Int) = -z by omega]
    simp (maxSteps := 2000000) only [go_sem, p_kSeq, ↓reduceIte, reduceCtorEq, Nat.reduceLT, Nat.reduceLeDiff, Nat.reduceEqDiff, Nat.reduceMul, Nat.reduceAdd, Nat.reduceSub, Int.reduceLE, Int.reduceLT, wAns, wD]
  · rw [show (z.natAbs : Int) = z by omega, wAns_yes h]
    rfl
end Go.Ax
