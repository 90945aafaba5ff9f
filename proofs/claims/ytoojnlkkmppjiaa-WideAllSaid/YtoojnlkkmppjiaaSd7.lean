/- The reference's ToWide; told; the helper's Wide. -/
import Derived.Test.YtoojnlkkmppjiaaSd6
import Derived.Test.YtoojnlkkmppjiaaLibF
set_option linter.unusedVariables false
set_option linter.unusedSimpArgs false
set_option linter.unusedSimpArgs false
set_option linter.unusedVariables false
namespace Go.Ax
open Go Go.Proofs
set_option maxRecDepth 100000
theorem toWide_spec (z : Int) (L : Nat) (hL3 : 3 ≤ L) (hL : L < 2 ^ 19) (hz : z.natAbs < BB ^ L) : FSpec Try.prog 60 [(true, bigDs z)] (wAns z) := by
  refine fspec_of aDraw (aDraw_ok mixed) Try.func60 rfl (by decide) [0, 1, 2, 3, 4, 5, 6, 7, 8] (rs := [.cell 2 44, .tmp 3]) rfl (by decide) (n := 35) rfl (by simp) ?_
  have hm := made_spec false [0, 0, 1] (by simp [BB]) (by simp)
  have e3 : sgn false (valU [0, 0, 1]) = 18446744073709551616 := by simp [sgn, valU, BB]
  rw [e3] at hm
  have hov := over_spec z 18446744073709551616 (by omega) L hL hz (by
    have : BB ^ 3 ≤ BB ^ L := Nat.pow_le_pow_right BB_pos hL3
    have h3 : BB ^ 3 = 79228162514264337593543950336 := by decide
    omega)
  have lq : (digs (z / 18446744073709551616).natAbs).length < 2 ^ 40 := by
    have : (digs (z / 18446744073709551616).natAbs).length ≤ L := (digs_len _ _).2 (by
      generalize BB ^ L = X at *
      omega)
    omega
  simp only [go_sem, ↓reduceIte, reduceCtorEq, Nat.reduceLT, Nat.reduceLeDiff, Nat.reduceEqDiff, Nat.reduceMul, Nat.reduceAdd, Nat.reduceSub, Int.reduceLE, Int.reduceLT]
  refine aCall_of hm ?_
  simp only [go_sem, ↓reduceIte, reduceCtorEq, Nat.reduceLT, Nat.reduceLeDiff, Nat.reduceEqDiff, Nat.reduceMul, Nat.reduceAdd, Nat.reduceSub, Int.reduceLE, Int.reduceLT]
  refine aCall_of hov ?_
  simp only [go_sem, ↓reduceIte, reduceCtorEq, Nat.reduceLT, Nat.reduceLeDiff, Nat.reduceEqDiff, Nat.reduceMul, Nat.reduceAdd, Nat.reduceSub, Int.reduceLE, Int.reduceLT]
  refine aCall_of (int_spec (z / 18446744073709551616) lq) ?_
  simp only [go_sem, ↓reduceIte, reduceCtorEq, Nat.reduceLT, Nat.reduceLeDiff, Nat.reduceEqDiff, Nat.reduceMul, Nat.reduceAdd, Nat.reduceSub, Int.reduceLE, Int.reduceLT, amt]
  have hw : Wid z ↔ I64 (z / 18446744073709551616) := by simp only [Wid, I64]; omega
  refine ⟨fun h => ?_, fun h => ?_⟩
  · have h1 : ¬ Wid z := fun e => by
      rw [(fit_of (hw.1 e)).1] at h
      cases h
    rw [wAns_no h1]
    rfl
  · have h1 : I64 (z / 18446744073709551616) := fit_true (by
      cases hf : fit (z / 18446744073709551616)
      · rw [hf] at h; cases h
      · rfl)
    rw [(fit_of h1).2, wAns_yes (hw.2 h1)]
    refine aCall_of (digit_spec (digs (z % 18446744073709551616).natAbs) 0 (by omega)) ?_
    simp only [go_sem, ↓reduceIte, reduceCtorEq, Nat.reduceLT, Nat.reduceLeDiff, Nat.reduceEqDiff, Nat.reduceMul, Nat.reduceAdd, Nat.reduceSub, Int.reduceLE, Int.reduceLT]
    refine aCall_of (digit_spec (digs (z % 18446744073709551616).natAbs) 1 (by omega)) ?_
    simp only [go_sem, ↓reduceIte, reduceCtorEq, Nat.reduceLT, Nat.reduceLeDiff, Nat.reduceEqDiff, Nat.reduceMul, Nat.reduceAdd, Nat.reduceSub, Int.reduceLE, Int.reduceLT]
    have hb0 := Nat.mod_lt (z % 18446744073709551616).natAbs BB_pos
    have hb1 := Nat.mod_lt ((z % 18446744073709551616).natAbs / BB) BB_pos
    rw [show (Int.toNat 0) = 0 from rfl, show (Int.toNat 1) = 1 from rfl, digs_get, digs_get, Nat.pow_zero, Nat.pow_one, Nat.div_one, or32_u64 _ _ (by simp only [BB] at *; omega) (by simp only [BB] at *; omega)]
    have hv : (((z % 18446744073709551616).natAbs % BB + 2 ^ 32 * ((z % 18446744073709551616).natAbs / BB % BB) : Nat) : Int) = wLo z := by simp only [BB, wLo] at *; omega
    rw [hv]
    exact ⟨by kernel_rfl, rfl⟩
theorem wtold_true (z : Int) (L : Nat) (hL3 : 3 ≤ L) (hL : L < 2 ^ 19) (hz : z.natAbs < BB ^ L) : FSpec Try.prog 37 [(true, wD (wfitV z)), (false, [.v (.bool (wfit z))]), (true, bigDs z)] yes := by
  refine fspec_of aDraw (aDraw_ok mixed) Try.func37 rfl (by decide) [0, 1, 2, 3, 5, 6, 7, 8] (rs := [.tmp 6]) rfl (by decide) (n := 22) rfl (by simp) ?_
  simp only [go_sem, ↓reduceIte, reduceCtorEq, Nat.reduceLT, Nat.reduceLeDiff, Nat.reduceEqDiff, Nat.reduceMul, Nat.reduceAdd, Nat.reduceSub, Int.reduceLE, Int.reduceLT, wD]
  refine aCall_of (toWide_spec z L hL3 hL hz) ?_
  simp only [go_sem, ↓reduceIte, reduceCtorEq, Nat.reduceLT, Nat.reduceLeDiff, Nat.reduceEqDiff, Nat.reduceMul, Nat.reduceAdd, Nat.reduceSub, Int.reduceLE, Int.reduceLT, wAns, wD, beq_self_eq_true, bool_self, decide_true, yes]
/-- The helper: is this Wide that number? -/
theorem hwide_spec (w z : Int) (hw : Wid w) (L : Nat) (hL4 : 4 ≤ L) (hL : L < 2 ^ 19) (hz : z.natAbs < BB ^ L) : FSpec Try.prog 48 [(true, wD w), (true, bigDs z)] [.one (.d (.v (.bool (decide (w = z)))))] := by
  refine fspec_of aDraw (aDraw_ok mixed) Try.func48 rfl (by decide) [0, 1, 2, 3, 4] (rs := [.tmp 4]) rfl (by decide) (n := 10) rfl (by simp) ?_
  have h4 : BB ^ 4 ≤ BB ^ L := Nat.pow_le_pow_right BB_pos hL4
  have h4' : BB ^ 4 = 340282366920938463463374607431768211456 := by decide
  generalize hX : BB ^ L = X at *
  have lw : (digs w.natAbs).length ≤ L := (digs_len _ _).2 (by rw [hX]; simp only [Wid] at hw; omega)
  have lz : (digs z.natAbs).length ≤ L := (digs_len _ _).2 (by rw [hX]; omega)
  have ld : (digs (w - z).natAbs).length ≤ L + 1 := small_len hX (by simp only [Wid] at hw; omega)
  simp only [go_sem, ↓reduceIte, reduceCtorEq, Nat.reduceLT, Nat.reduceLeDiff, Nat.reduceEqDiff, Nat.reduceMul, Nat.reduceAdd, Nat.reduceSub, Int.reduceLE, Int.reduceLT, wD]
  refine aCall_of (rwide_spec w hw) ?_
  simp only [go_sem, ↓reduceIte, reduceCtorEq, Nat.reduceLT, Nat.reduceLeDiff, Nat.reduceEqDiff, Nat.reduceMul, Nat.reduceAdd, Nat.reduceSub, Int.reduceLE, Int.reduceLT]
  refine aCall_of (rcmp_spec w z (by omega) (by omega) (by omega)) ?_
  simp only [go_sem, ↓reduceIte, reduceCtorEq, Nat.reduceLT, Nat.reduceLeDiff, Nat.reduceEqDiff, Nat.reduceMul, Nat.reduceAdd, Nat.reduceSub, Int.reduceLE, Int.reduceLT]
  have : (cmpI w z == 0) = decide (w = z) := by
    unfold cmpI
    by_cases h1 : w < z
    · rw [if_pos h1, decide_eq_false (by omega)]; rfl
    · rw [if_neg h1]
      by_cases h2 : w = z
      · rw [if_pos h2, decide_eq_true h2]; rfl
      · rw [if_neg h2, decide_eq_false h2]; rfl
  rw [this]
  exact ⟨by kernel_rfl, rfl⟩
end Go.Ax
