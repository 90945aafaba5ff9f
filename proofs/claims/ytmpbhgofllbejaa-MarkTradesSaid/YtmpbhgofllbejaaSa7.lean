/- A part of the proof: Sa7. -/
import Derived.Test.YtmpbhgofllbejaaSa6
set_option linter.unusedVariables false
set_option linter.unusedSimpArgs false
set_option linter.unusedSimpArgs false
set_option linter.unusedVariables false
namespace Go.Ax
open Go Go.Proofs
set_option maxRecDepth 100000
theorem mul64_split (x y : Nat) (hx : x < 2 ^ 64) (hy : y < 2 ^ 64) :
    ((x / 2 ^ 32 * (y / 2 ^ 32)) % 2 ^ 64 + ((x / 2 ^ 32 * (y % 2 ^ 32)) % 2 ^ 64 + (x % 2 ^ 32 * (y % 2 ^ 32)) % 2 ^ 64 / 2 ^ 32) % 2 ^ 64 / 2 ^ 32) % 2 ^ 64 +
      (((x / 2 ^ 32 * (y % 2 ^ 32)) % 2 ^ 64 + (x % 2 ^ 32 * (y % 2 ^ 32)) % 2 ^ 64 / 2 ^ 32) % 2 ^ 64 % 2 ^ 32 + (x % 2 ^ 32 * (y / 2 ^ 32)) % 2 ^ 64) % 2 ^ 64 / 2 ^ 32 = x * y / 2 ^ 64 := by
  have ex := Nat.div_add_mod x (2 ^ 32)
  have ey := Nat.div_add_mod y (2 ^ 32)
  have hx1 : x / 2 ^ 32 ≤ 2 ^ 32 - 1 := by omega
  have hy1 : y / 2 ^ 32 ≤ 2 ^ 32 - 1 := by omega
  have hx0 : x % 2 ^ 32 ≤ 2 ^ 32 - 1 := by omega
  have hy0 : y % 2 ^ 32 ≤ 2 ^ 32 - 1 := by omega
  generalize x / 2 ^ 32 = x1 at *
  generalize y / 2 ^ 32 = y1 at *
  generalize x % 2 ^ 32 = x0 at *
  generalize y % 2 ^ 32 = y0 at *
  have b11 := Nat.mul_le_mul hx1 hy1
  have b10 := Nat.mul_le_mul hx1 hy0
  have b01 := Nat.mul_le_mul hx0 hy1
  have b00 := Nat.mul_le_mul hx0 hy0
  have e : x * y = x1 * y1 * 2 ^ 64 + (x1 * y0 + x0 * y1) * 2 ^ 32 + x0 * y0 := by
    rw [← ex, ← ey, Nat.add_mul, Nat.mul_add, Nat.mul_add]
    have a1 : 2 ^ 32 * x1 * (2 ^ 32 * y1) = x1 * y1 * 2 ^ 64 := by rw [show (2 : Nat) ^ 64 = 2 ^ 32 * 2 ^ 32 by decide]; ac_rfl
    have a2 : 2 ^ 32 * x1 * y0 = x1 * y0 * 2 ^ 32 := by ac_rfl
    have a3 : x0 * (2 ^ 32 * y1) = x0 * y1 * 2 ^ 32 := by ac_rfl
    rw [a1, a2, a3, Nat.add_mul]
    omega
  rw [e]
  generalize x1 * y1 = p11 at *
  generalize x1 * y0 = p10 at *
  generalize x0 * y1 = p01 at *
  generalize x0 * y0 = p00 at *
  omega
theorem mul64_spec (x y : Nat) (hx : x < 2 ^ 64) (hy : y < 2 ^ 64) : FSpec Try.prog 113 [(false, [.v (.int .u64 (x : Int))]), (false, [.v (.int .u64 (y : Int))])] [.one (.d (.v (.int .u64 ((x * y / 2 ^ 64 : Nat) : Int)))), .one (.d (.v (.int .u64 ((x * y % 2 ^ 64 : Nat) : Int))))] := by
  refine fspec_of aDraw (aDraw_ok mixed) Try.func113 rfl (by decide) [0, 1, 4, 5, 6, 7, 8, 9, 10, 11, 12, 13] (rs := [.tmp 4, .tmp 5]) rfl (by decide) (n := 51) rfl (by simp) ?_
  simp (maxSteps := 2000000) only [go_sem, p_kSeq, ↓reduceIte, reduceCtorEq, Nat.reduceLT, Nat.reduceLeDiff, Nat.reduceEqDiff, Nat.reduceMul, Nat.reduceAdd, Nat.reduceSub, Int.reduceLE, Int.reduceLT]
  have hb : x * y / 2 ^ 64 < 2 ^ 64 := by
    refine (Nat.div_lt_iff_lt_mul (by decide)).2 ?_
    calc x * y ≤ (2 ^ 64 - 1) * (2 ^ 64 - 1) := Nat.mul_le_mul (by omega) (by omega)
      _ < 2 ^ 64 * 2 ^ 64 := by decide
  rw [mul64_split x y hx hy, Nat.mod_eq_of_lt hb]
theorem neg_wrap (m : Nat) (h : m ≤ 9223372036854775808) : IntKind.i64.wrap (IntKind.u64.wrap (0 - (m : Int))) = -(m : Int) := by
  have e1 : (2 : Int) ^ 64 = 18446744073709551616 := by decide
  have e2 : (2 : Int) ^ (64 - 1) = 9223372036854775808 := by decide
  simp only [IntKind.wrap, IntKind.bits, IntKind.signed, e1, e2, Bool.true_and, decide_eq_true_eq, Bool.false_and, Bool.false_eq_true, if_false]
  split <;> omega
theorem or32_u64 (x y : Nat) (hx : x < 2 ^ 32) (hy : y < 2 ^ 32) : Go.bits .or .u64 (x : Int) (IntKind.u64.wrap ((y : Int) * 2 ^ (min (Int.toNat 32) 64))) = ((x + 2 ^ 32 * y : Nat) : Int) := by
  have e0 : IntKind.u64.wrap ((y : Int) * 2 ^ (min (Int.toNat 32) 64)) = ((2 ^ 32 * y : Nat) : Int) := by
    have : ((y : Int) * 2 ^ (min (Int.toNat 32) 64)) = ((2 ^ 32 * y : Nat) : Int) := by
      rw [show min (Int.toNat 32) 64 = 32 by decide, Int.mul_comm]; simp
    rw [this, wrap_u64, Nat.mod_eq_of_lt (by omega)]
  rw [e0]
  have h : (BitVec.ofInt 64 (x : Int) ||| BitVec.ofInt 64 ((2 ^ 32 * y : Nat) : Int)).toNat = x + 2 ^ 32 * y := by
    rw [BitVec.toNat_or]
    have h1 : (BitVec.ofInt 64 (x : Int)).toNat = x := by simp [BitVec.toNat_ofInt]; omega
    have h2 : (BitVec.ofInt 64 ((2 ^ 32 * y : Nat) : Int)).toNat = 2 ^ 32 * y := by
      rw [BitVec.toNat_ofInt]
      omega
    rw [h1, h2, Nat.or_comm, ← Nat.two_pow_add_eq_or_of_lt hx, Nat.add_comm]
  show IntKind.u64.wrap ((BitVec.ofInt 64 (x : Int) ||| BitVec.ofInt 64 ((2 ^ 32 * y : Nat) : Int)).toNat : Int) = _
  rw [h, wrap_u64, Nat.mod_eq_of_lt (by omega)]
theorem mul_sign (a b : Int) : (decide (a < 0) = decide (b < 0) → a * b = ((a.natAbs * b.natAbs : Nat) : Int)) ∧ (decide (a < 0) ≠ decide (b < 0) → a * b = -((a.natAbs * b.natAbs : Nat) : Int)) := by
  have h : ∀ (n m : Nat), ((n : Int) * m = ((n * m : Nat) : Int)) ∧ (-(n : Int) * m = -((n * m : Nat) : Int)) ∧ ((n : Int) * -(m : Int) = -((n * m : Nat) : Int)) ∧ (-(n : Int) * -(m : Int) = ((n * m : Nat) : Int)) := by
    intro n m
    refine ⟨by simp, by simp [Int.neg_mul], by simp [Int.mul_neg], by simp [Int.neg_mul_neg]⟩
  obtain ⟨h1, h2, h3, h4⟩ := h a.natAbs b.natAbs
  by_cases ha : a < 0 <;> by_cases hb : b < 0
  · rw [show -(a.natAbs : Int) = a by omega, show -(b.natAbs : Int) = b by omega] at h4
    exact ⟨fun _ => h4, fun e => by simp [ha, hb] at e⟩
  · rw [show -(a.natAbs : Int) = a by omega, show (b.natAbs : Int) = b by omega] at h2
    exact ⟨fun e => by simp [ha, hb] at e, fun _ => h2⟩
  · rw [show (a.natAbs : Int) = a by omega, show -(b.natAbs : Int) = b by omega] at h3
    exact ⟨fun e => by simp [ha, hb] at e, fun _ => h3⟩
  · rw [show (a.natAbs : Int) = a by omega, show (b.natAbs : Int) = b by omega] at h1
    exact ⟨fun _ => h1, fun e => by simp [ha, hb] at e⟩
theorem int_spec (z : Int) (hl : (digs z.natAbs).length < 2 ^ 40) : FSpec Try.prog 76 [(true, bigDs z)] (amt z) := by
  refine fspec_of aDraw (aDraw_ok mixed) Try.func76 rfl (by decide) [0, 1, 2, 3, 4] (rs := [.tmp 2, .tmp 3]) rfl (by decide) (n := 28) rfl (by simp) ?_
  simp (maxSteps := 2000000) only [go_sem, p_kSeq, ↓reduceIte, reduceCtorEq, Nat.reduceLT, Nat.reduceLeDiff, Nat.reduceEqDiff, Nat.reduceMul, Nat.reduceAdd, Nat.reduceSub, Int.reduceLE, Int.reduceLT, amt]
  refine ⟨fun h => ?_, fun h => ?_⟩
  · have h1 := mt (digs_len z.natAbs 2).2 (by omega)
    obtain ⟨f1, f2⟩ := amt_no (z := z) (by simp only [BB] at h1; omega)
    rw [f1, f2]
  refine aCall_of (digit_spec (digs z.natAbs) 0 (by omega)) ?_
  simp (maxSteps := 2000000) only [go_sem, p_kSeq, ↓reduceIte, reduceCtorEq, Nat.reduceLT, Nat.reduceLeDiff, Nat.reduceEqDiff, Nat.reduceMul, Nat.reduceAdd, Nat.reduceSub, Int.reduceLE, Int.reduceLT]
  refine aCall_of (digit_spec (digs z.natAbs) 1 (by omega)) ?_
  simp (maxSteps := 2000000) only [go_sem, p_kSeq, ↓reduceIte, reduceCtorEq, Nat.reduceLT, Nat.reduceLeDiff, Nat.reduceEqDiff, Nat.reduceMul, Nat.reduceAdd, Nat.reduceSub, Int.reduceLE, Int.reduceLT]
  have h1 := (digs_len z.natAbs 2).1 (by omega)
  simp only [show Int.toNat 0 = 0 from rfl, show Int.toNat 1 = 1 from rfl, digs_get, Nat.pow_zero, Nat.div_one, Nat.pow_one]
  have hb0 := Nat.mod_lt z.natAbs BB_pos
  have hb1 := Nat.mod_lt (z.natAbs / BB) BB_pos
  rw [or32_u64 _ _ (by simp only [BB] at *; omega) (by simp only [BB] at *; omega)]
  have hv : z.natAbs % BB + 2 ^ 32 * (z.natAbs / BB % BB) = z.natAbs := by simp only [BB] at *; omega
  rw [hv]
  refine ⟨by kernel_rfl, fun h2 => ⟨fun h3 => ?_, fun h3 => ?_⟩, fun h2 => ⟨fun h3 => ?_, fun h3 => ?_⟩⟩
  · obtain ⟨f1, f2⟩ := amt_no (z := z) (by omega); rw [f1, f2]
  · obtain ⟨f1, f2⟩ := amt_yes (z := z) (by omega); rw [f1, f2, neg_wrap _ (by omega), show -(z.natAbs : Int) = z by omega]
  · obtain ⟨f1, f2⟩ := amt_no (z := z) (by omega); rw [f1, f2]
  · obtain ⟨f1, f2⟩ := amt_yes (z := z) (by omega); rw [f1, f2, i64_wrap _ (by omega) (by omega), show (z.natAbs : Int) = z by omega]
end Go.Ax
