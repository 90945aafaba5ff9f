/- wide.size, signed, Mul, Times, Sum. -/
import Derived.Test.YtmpbhgofllbejaaSd2
set_option linter.unusedVariables false
set_option linter.unusedSimpArgs false
set_option linter.unusedSimpArgs false
set_option linter.unusedVariables false
namespace Go.Ax
open Go Go.Proofs
set_option maxRecDepth 100000
theorem dec_wHi (z : Int) : decide (wHi z < 0) = decide (z < 0) := by simp only [wHi_neg]
theorem wsize_spec (z : Int) (h : Wid z) : FSpec Try.prog 143 [(true, wD z)] [.one (.d (.v (.int .u64 ((z.natAbs : Int) / 18446744073709551616)))), .one (.d (.v (.int .u64 ((z.natAbs : Int) % 18446744073709551616))))] := by
  refine fspec_of aDraw (aDraw_ok mixed) Try.func143 rfl (by decide) [0, 1, 2, 3, 4, 5, 6, 7] (rs := [.tmp 2, .tmp 3]) rfl (by decide) (n := 32) rfl (by simp) ?_
  have hl := wLo_lt z
  simp (maxSteps := 2000000) only [go_sem, p_kSeq, ↓reduceIte, reduceCtorEq, Nat.reduceLT, Nat.reduceLeDiff, Nat.reduceEqDiff, Nat.reduceMul, Nat.reduceAdd, Nat.reduceSub, Int.reduceLE, Int.reduceLT, wD]
  refine ⟨fun h1 => ?_, fun h1 => ?_⟩
  · have e1 : IntKind.u64.wrap (wHi z) = (z.natAbs : Int) / 18446744073709551616 := by
      rw [u64_mod]; simp only [wHi, Wid] at *; omega
    have e2 : wLo z = (z.natAbs : Int) % 18446744073709551616 := by simp only [wHi, wLo, Wid] at *; omega
    rw [e1, e2]
    exact ⟨by kernel_rfl, rfl⟩
  · refine aCall_of (sub64I 0 (wLo z) 0 (by omega) hl.1 (by omega) hl.2 (by omega) (by omega)) ?_
    simp (maxSteps := 2000000) only [go_sem, p_kSeq, ↓reduceIte, reduceCtorEq, Nat.reduceLT, Nat.reduceLeDiff, Nat.reduceEqDiff, Nat.reduceMul, Nat.reduceAdd, Nat.reduceSub, Int.reduceLE, Int.reduceLT]
    refine aCall_of (sub64I 0 (IntKind.u64.wrap (wHi z)) (-((0 - wLo z - 0) / 18446744073709551616)) (by omega) (u64_lt _).1 (by omega) (u64_lt _).2 (by omega) (by omega)) ?_
    simp (maxSteps := 2000000) only [go_sem, p_kSeq, ↓reduceIte, reduceCtorEq, Nat.reduceLT, Nat.reduceLeDiff, Nat.reduceEqDiff, Nat.reduceMul, Nat.reduceAdd, Nat.reduceSub, Int.reduceLE, Int.reduceLT]
    have e1 : (0 - IntKind.u64.wrap (wHi z) - -((0 - wLo z - 0) / 18446744073709551616)) % 18446744073709551616 = (z.natAbs : Int) / 18446744073709551616 := by
      rw [u64_mod]; simp only [wHi, wLo, Wid] at *; omega
    have e2 : (0 - wLo z - 0) % 18446744073709551616 = (z.natAbs : Int) % 18446744073709551616 := by simp only [wHi, wLo, Wid] at *; omega
    rw [e1, e2]
/-- A number of a size, below 0 or not. -/
def sgnI (neg : Bool) (m : Int) : Int := if neg then -m else m
theorem wsigned_spec (neg : Bool) (hi lo : Int) (h1 : 0 ≤ hi) (h2 : hi < 18446744073709551616) (h3 : 0 ≤ lo) (h4 : lo < 18446744073709551616) :
    FSpec Try.prog 115 [(false, [.v (.bool neg)]), (false, [.v (.int .u64 hi)]), (false, [.v (.int .u64 lo)])] (wAns (sgnI neg (hi * 18446744073709551616 + lo))) := by
  refine fspec_of aDraw (aDraw_ok mixed) Try.func115 rfl (by decide) [0, 1, 2, 6, 7, 8, 9, 10, 11] (rs := [.cell 6 59, .tmp 7]) rfl (by decide) (n := 47) rfl (by simp) ?_
  simp (maxSteps := 2000000) only [go_sem, p_kSeq, ↓reduceIte, reduceCtorEq, Nat.reduceLT, Nat.reduceLeDiff, Nat.reduceEqDiff, Nat.reduceMul, Nat.reduceAdd, Nat.reduceSub, Int.reduceLE, Int.reduceLT]
  cases neg
  · simp (maxSteps := 2000000) only [go_sem, p_kSeq, ↓reduceIte, reduceCtorEq, Nat.reduceLT, Nat.reduceLeDiff, Nat.reduceEqDiff, Nat.reduceMul, Nat.reduceAdd, Nat.reduceSub, Int.reduceLE, Int.reduceLT, sgnI, Bool.not_false]
    refine ⟨fun h => ?_, fun h => ?_⟩
    · rw [wAns_no (by simp only [Wid]; omega)]
      rfl
    · rw [wAns_yes (by simp only [Wid]; omega), i64_wrap _ (by omega) (by omega)]
      simp only [wD, wHi, wLo, show (hi * 18446744073709551616 + lo) / 18446744073709551616 = hi by omega, show (hi * 18446744073709551616 + lo) % 18446744073709551616 = lo by omega]
  · simp (maxSteps := 2000000) only [go_sem, p_kSeq, ↓reduceIte, reduceCtorEq, Nat.reduceLT, Nat.reduceLeDiff, Nat.reduceEqDiff, Nat.reduceMul, Nat.reduceAdd, Nat.reduceSub, Int.reduceLE, Int.reduceLT, sgnI, Bool.not_true, if_true]
    have no : ¬ (-9223372036854775808 * 18446744073709551616 ≤ -(hi * 18446744073709551616 + lo)) → [Comp.agg [D.v (Value.int IntKind.i64 0), D.v (Value.int IntKind.u64 0)], Comp.one (Leaf.d (D.v (Value.bool false)))] = wAns (-(hi * 18446744073709551616 + lo)) := fun h => by
      rw [wAns_no (by simp only [Wid]; omega)]
      rfl
    have yes : (-9223372036854775808 * 18446744073709551616 ≤ -(hi * 18446744073709551616 + lo)) → [Comp.agg [D.v (Value.int IntKind.i64 (IntKind.i64.wrap ((0 - hi - -((0 - lo - 0) / 18446744073709551616)) % 18446744073709551616))), D.v (Value.int IntKind.u64 ((0 - lo - 0) % 18446744073709551616))], Comp.one (Leaf.d (D.v (Value.bool true)))] = wAns (-(hi * 18446744073709551616 + lo)) := fun h => by
      have hw : Wid (-(hi * 18446744073709551616 + lo)) := by simp only [Wid]; omega
      have e0 : 0 - hi - -((0 - lo - 0) / 18446744073709551616) = -(hi * 18446744073709551616 + lo) / 18446744073709551616 := by omega
      have e1 : (0 - lo - 0) % 18446744073709551616 = -(hi * 18446744073709551616 + lo) % 18446744073709551616 := by omega
      rw [wAns_yes hw, i64_mod, e0, e1, i64_wrap _ (by omega) (by omega)]
      rfl
    have s1 := sub64I 0 lo 0 (by omega) h3 (by omega) h4 (by omega) (by omega)
    have s2 := sub64I 0 hi (-((0 - lo - 0) / 18446744073709551616)) (by omega) h1 (by omega) h2 (by omega) (by omega)
    refine ⟨fun h => ⟨fun h5 => ⟨fun h6 => ?_, fun h6 => ?_⟩, fun h5 => ?_⟩, fun h => ?_⟩
    · exact no (by omega)
    · refine aCall_of s1 ?_
      simp (maxSteps := 2000000) only [go_sem, p_kSeq, ↓reduceIte, reduceCtorEq, Nat.reduceLT, Nat.reduceLeDiff, Nat.reduceEqDiff, Nat.reduceMul, Nat.reduceAdd, Nat.reduceSub, Int.reduceLE, Int.reduceLT]
      refine aCall_of s2 ?_
      simp (maxSteps := 2000000) only [go_sem, p_kSeq, ↓reduceIte, reduceCtorEq, Nat.reduceLT, Nat.reduceLeDiff, Nat.reduceEqDiff, Nat.reduceMul, Nat.reduceAdd, Nat.reduceSub, Int.reduceLE, Int.reduceLT]
      exact yes (by omega)
    · refine aCall_of s1 ?_
      simp (maxSteps := 2000000) only [go_sem, p_kSeq, ↓reduceIte, reduceCtorEq, Nat.reduceLT, Nat.reduceLeDiff, Nat.reduceEqDiff, Nat.reduceMul, Nat.reduceAdd, Nat.reduceSub, Int.reduceLE, Int.reduceLT]
      refine aCall_of s2 ?_
      simp (maxSteps := 2000000) only [go_sem, p_kSeq, ↓reduceIte, reduceCtorEq, Nat.reduceLT, Nat.reduceLeDiff, Nat.reduceEqDiff, Nat.reduceMul, Nat.reduceAdd, Nat.reduceSub, Int.reduceLE, Int.reduceLT]
      exact yes (by omega)
    · exact no (by omega)
theorem sgnI_mul (a b : Int) : sgnI (!(decide (a < 0) == decide (b < 0))) ((a.natAbs : Int) * (b.natAbs : Int)) = a * b := by
  by_cases ha : a < 0 <;> by_cases hb : b < 0
  · rw [show (a.natAbs : Int) = -a by omega, show (b.natAbs : Int) = -b by omega]; simp [sgnI, ha, hb, Int.neg_mul_neg]
  · rw [show (a.natAbs : Int) = -a by omega, show (b.natAbs : Int) = b by omega]; simp [sgnI, ha, hb, Int.neg_mul]
  · rw [show (a.natAbs : Int) = a by omega, show (b.natAbs : Int) = -b by omega]; simp [sgnI, ha, hb, Int.mul_neg]
  · rw [show (a.natAbs : Int) = a by omega, show (b.natAbs : Int) = b by omega]; simp [sgnI, ha, hb]
theorem wmul_spec (x y : Int) (hx : I64 x) (hy : I64 y) : FSpec Try.prog 65 [(false, [.v (.int .i64 x)]), (false, [.v (.int .i64 y)])] [.agg (wD (x * y))] := by
  refine fspec_of aDraw (aDraw_ok mixed) Try.func65 rfl (by decide) [0, 1, 4, 5, 6, 7, 8] (rs := [.cell 4 59]) rfl (by decide) (n := 29) rfl (by simp) ?_
  have hx' := hx
  have hy' := hy
  simp only [I64] at hx' hy'
  have hm : (x.natAbs : Int) * (y.natAbs : Int) ≤ 9223372036854775808 * 9223372036854775808 := Int.mul_le_mul (by omega) (by omega) (by omega) (by omega)
  have hm0 : 0 ≤ (x.natAbs : Int) * (y.natAbs : Int) := Int.mul_nonneg (by omega) (by omega)
  have key := sgnI_mul x y
  generalize he : (x.natAbs : Int) * (y.natAbs : Int) = m at *
  have hs := wsigned_spec (!(decide (x < 0) == decide (y < 0))) (m / 18446744073709551616) (m % 18446744073709551616) (by omega) (by omega) (by omega) (by omega)
  rw [show m / 18446744073709551616 * 18446744073709551616 + m % 18446744073709551616 = m by omega, key, wAns_yes (by
    rw [← key]
    simp only [Wid, sgnI]
    split <;> omega)] at hs
  simp (maxSteps := 2000000) only [go_sem, p_kSeq, ↓reduceIte, reduceCtorEq, Nat.reduceLT, Nat.reduceLeDiff, Nat.reduceEqDiff, Nat.reduceMul, Nat.reduceAdd, Nat.reduceSub, Int.reduceLE, Int.reduceLT]
  refine aCall_of (asize_spec x hx) ?_
  simp (maxSteps := 2000000) only [go_sem, p_kSeq, ↓reduceIte, reduceCtorEq, Nat.reduceLT, Nat.reduceLeDiff, Nat.reduceEqDiff, Nat.reduceMul, Nat.reduceAdd, Nat.reduceSub, Int.reduceLE, Int.reduceLT]
  refine aCall_of (asize_spec y hy) ?_
  simp (maxSteps := 2000000) only [go_sem, p_kSeq, ↓reduceIte, reduceCtorEq, Nat.reduceLT, Nat.reduceLeDiff, Nat.reduceEqDiff, Nat.reduceMul, Nat.reduceAdd, Nat.reduceSub, Int.reduceLE, Int.reduceLT]
  refine aCall_of (mul64I (x.natAbs : Int) (y.natAbs : Int) (by omega) (by omega) (by omega) (by omega)) ?_
  rw [he]
  simp (maxSteps := 2000000) only [go_sem, p_kSeq, ↓reduceIte, reduceCtorEq, Nat.reduceLT, Nat.reduceLeDiff, Nat.reduceEqDiff, Nat.reduceMul, Nat.reduceAdd, Nat.reduceSub, Int.reduceLE, Int.reduceLT]
  refine aCall_of hs ?_
  simp (maxSteps := 2000000) only [go_sem, p_kSeq, ↓reduceIte, reduceCtorEq, Nat.reduceLT, Nat.reduceLeDiff, Nat.reduceEqDiff, Nat.reduceMul, Nat.reduceAdd, Nat.reduceSub, Int.reduceLE, Int.reduceLT, wD]
theorem wtimes_spec (z k : Int) (hz : Wid z) (hk : I64 k) : FSpec Try.prog 127 [(true, wD z), (false, [.v (.int .i64 k)])] (wAns (z * k)) := by
  refine fspec_of aDraw (aDraw_ok mixed) Try.func127 rfl (by decide) [0, 1, 2, 4, 5, 6, 7, 8, 9, 10, 11, 12, 13] (rs := [.cell 4 59, .tmp 5]) rfl (by decide) (n := 55) rfl (by simp) ?_
  have hz' := hz
  have hk' := hk
  simp only [I64, Wid] at hz' hk'
  have key := sgnI_mul z k
  have kN : 0 ≤ (k.natAbs : Int) ∧ (k.natAbs : Int) ≤ 9223372036854775808 := by omega
  generalize hN : (k.natAbs : Int) = N at *
  have zn : 0 ≤ (z.natAbs : Int) ∧ (z.natAbs : Int) ≤ 170141183460469231731687303715884105728 := by omega
  have hws := wsize_spec z hz
  generalize hn : (z.natAbs : Int) = n at *
  have hsz := asize_spec k hk
  rw [hN] at hsz
  have e : n = n / 18446744073709551616 * 18446744073709551616 + n % 18446744073709551616 := by omega
  have b1 : 0 ≤ n / 18446744073709551616 ∧ n / 18446744073709551616 ≤ 9223372036854775808 := by omega
  have b2 : 0 ≤ n % 18446744073709551616 ∧ n % 18446744073709551616 < 18446744073709551616 := by omega
  generalize hh : n / 18446744073709551616 = h at *
  generalize hl : n % 18446744073709551616 = l at *
  have hq : 0 ≤ h * N ∧ h * N ≤ 9223372036854775808 * 9223372036854775808 := ⟨Int.mul_nonneg b1.1 kN.1, Int.mul_le_mul b1.2 kN.2 kN.1 (by omega)⟩
  have hp : 0 ≤ l * N ∧ l * N ≤ 18446744073709551615 * 9223372036854775808 := ⟨Int.mul_nonneg b2.1 kN.1, Int.mul_le_mul (by omega) kN.2 kN.1 (by omega)⟩
  have e2 : n * N = h * N * 18446744073709551616 + l * N := by
    rw [e, Int.add_mul, Int.mul_right_comm]
  have m1 := mul64I l N b2.1 kN.1 b2.2 (by omega)
  have m2 := mul64I h N b1.1 kN.1 (by omega) (by omega)
  generalize h * N = q at *
  generalize l * N = p at *
  rw [e2] at key
  simp (maxSteps := 2000000) only [go_sem, p_kSeq, ↓reduceIte, reduceCtorEq, Nat.reduceLT, Nat.reduceLeDiff, Nat.reduceEqDiff, Nat.reduceMul, Nat.reduceAdd, Nat.reduceSub, Int.reduceLE, Int.reduceLT, wD]
  refine aCall_of hws ?_
  simp (maxSteps := 2000000) only [go_sem, p_kSeq, ↓reduceIte, reduceCtorEq, Nat.reduceLT, Nat.reduceLeDiff, Nat.reduceEqDiff, Nat.reduceMul, Nat.reduceAdd, Nat.reduceSub, Int.reduceLE, Int.reduceLT]
  refine aCall_of hsz ?_
  simp (maxSteps := 2000000) only [go_sem, p_kSeq, ↓reduceIte, reduceCtorEq, Nat.reduceLT, Nat.reduceLeDiff, Nat.reduceEqDiff, Nat.reduceMul, Nat.reduceAdd, Nat.reduceSub, Int.reduceLE, Int.reduceLT]
  refine aCall_of m1 ?_
  simp (maxSteps := 2000000) only [go_sem, p_kSeq, ↓reduceIte, reduceCtorEq, Nat.reduceLT, Nat.reduceLeDiff, Nat.reduceEqDiff, Nat.reduceMul, Nat.reduceAdd, Nat.reduceSub, Int.reduceLE, Int.reduceLT]
  refine aCall_of m2 ?_
  simp (maxSteps := 2000000) only [go_sem, p_kSeq, ↓reduceIte, reduceCtorEq, Nat.reduceLT, Nat.reduceLeDiff, Nat.reduceEqDiff, Nat.reduceMul, Nat.reduceAdd, Nat.reduceSub, Int.reduceLE, Int.reduceLT]
  refine aCall_of (add64I (q % 18446744073709551616) (p / 18446744073709551616) 0 (by omega) (by omega) (by omega) (by omega) (by omega) (by omega)) ?_
  simp (maxSteps := 2000000) only [go_sem, p_kSeq, ↓reduceIte, reduceCtorEq, Nat.reduceLT, Nat.reduceLeDiff, Nat.reduceEqDiff, Nat.reduceMul, Nat.reduceAdd, Nat.reduceSub, Int.reduceLE, Int.reduceLT]
  simp only [dec_wHi]
  refine ⟨fun h5 => ?_, fun h5 => ?_⟩
  · rw [wAns_no (by
      rw [← key]
      rw [u64_mod] at h5
      simp only [Wid, sgnI]
      split <;> omega)]
    rfl
  · have hs := wsigned_spec (!(decide (z < 0) == decide (k < 0))) ((q % 18446744073709551616 + p / 18446744073709551616 + 0) % 18446744073709551616) (p % 18446744073709551616) (by omega) (by omega) (by omega) (by omega)
    rw [show (q % 18446744073709551616 + p / 18446744073709551616 + 0) % 18446744073709551616 * 18446744073709551616 + p % 18446744073709551616 = q * 18446744073709551616 + p by rw [u64_mod] at h5; omega, key] at hs
    refine aCall_of hs ?_
    simp (maxSteps := 2000000) only [go_sem, p_kSeq, ↓reduceIte, reduceCtorEq, Nat.reduceLT, Nat.reduceLeDiff, Nat.reduceEqDiff, Nat.reduceMul, Nat.reduceAdd, Nat.reduceSub, Int.reduceLE, Int.reduceLT, wAns, wD]
end Go.Ax
