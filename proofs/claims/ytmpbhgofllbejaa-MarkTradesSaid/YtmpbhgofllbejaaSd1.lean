/- The wide numbers: what holds their two words; sums and differences of words. -/
import Derived.Test.YtmpbhgofllbejaaSb4
set_option linter.unusedVariables false
set_option linter.unusedSimpArgs false
set_option linter.unusedSimpArgs false
set_option linter.unusedVariables false
namespace Go.Ax
open Go Go.Proofs
set_option maxRecDepth 100000
/-- A number that a Wide holds. -/
def Wid (z : Int) : Prop := -170141183460469231731687303715884105728 ≤ z ∧ z < 170141183460469231731687303715884105728
instance (z : Int) : Decidable (Wid z) := by unfold Wid; infer_instance
def wHi (z : Int) : Int := z / 18446744073709551616
def wLo (z : Int) : Int := z % 18446744073709551616
/-- Its words. -/
def wD (z : Int) : List D := [.v (.int .i64 (wHi z)), .v (.int .u64 (wLo z))]
def wfit (z : Int) : Bool := decide (Wid z)
def wfitV (z : Int) : Int := if Wid z then z else 0
/-- A number, or that no Wide holds it. -/
def wAns (z : Int) : List Comp := [.agg (wD (wfitV z)), .one (.d (.v (.bool (wfit z))))]
theorem wAns_yes {z : Int} (h : Wid z) : wAns z = [.agg (wD z), .one (.d (.v (.bool true)))] := by simp [wAns, wfit, wfitV, h]
theorem wAns_no {z : Int} (h : ¬ Wid z) : wAns z = [.agg (wD 0), .one (.d (.v (.bool false)))] := by simp [wAns, wfit, wfitV, h]
theorem wD_zero : wD 0 = [.v (.int .i64 0), .v (.int .u64 0)] := rfl
theorem wD_ext {a b : Int} (h1 : wHi a = wHi b) (h2 : wLo a = wLo b) : a = b := by simp only [wHi, wLo] at *; omega
theorem wD_eq (a b : Int) : (wHi a == wHi b && wLo a == wLo b) = (a == b) := by
  by_cases h : a = b
  · subst h; simp
  · have : ¬ (wHi a = wHi b ∧ wLo a = wLo b) := fun e => h (wD_ext e.1 e.2)
    have h1 : (a == b) = false := by simpa using h
    rw [h1]
    by_cases h2 : wHi a = wHi b <;> simp_all
theorem wid_hi {z : Int} (h : Wid z) : I64 (wHi z) := by simp only [Wid, I64, wHi] at *; omega
theorem wLo_lt (z : Int) : 0 ≤ wLo z ∧ wLo z < 18446744073709551616 := by simp only [wLo]; omega
theorem wid_of (hi lo : Int) (h : I64 hi) (h1 : 0 ≤ lo) (h2 : lo < 18446744073709551616) : ∃ z, Wid z ∧ wHi z = hi ∧ wLo z = lo := ⟨hi * 18446744073709551616 + lo, by simp only [Wid, I64, wHi, wLo] at *; omega⟩
theorem wHi_neg (z : Int) : wHi z < 0 ↔ z < 0 := by simp only [wHi]; omega
theorem u64_mod (x : Int) : IntKind.u64.wrap x = x % 18446744073709551616 := by
  have e : (2 : Int) ^ 64 = 18446744073709551616 := by decide
  simp only [IntKind.wrap, IntKind.bits, IntKind.signed, e, Bool.false_and, Bool.false_eq_true, if_false]
theorem i64_wrap' (x : Int) : IntKind.i64.wrap x = if x % 18446744073709551616 ≥ 9223372036854775808 then x % 18446744073709551616 - 18446744073709551616 else x % 18446744073709551616 := by
  have e : (2 : Int) ^ 64 = 18446744073709551616 := by decide
  have e1 : (2 : Int) ^ 63 = 9223372036854775808 := by decide
  simp only [IntKind.wrap, IntKind.bits, IntKind.signed, e, Nat.reduceSub, e1, Bool.true_and, decide_eq_true_eq]
theorem i64_char (x : Int) : ∃ k, IntKind.i64.wrap x = x + 18446744073709551616 * k ∧ -9223372036854775808 ≤ IntKind.i64.wrap x ∧ IntKind.i64.wrap x < 9223372036854775808 := by
  rw [i64_wrap']
  by_cases h : x % 18446744073709551616 ≥ 9223372036854775808
  · rw [if_pos h]; exact ⟨-(x / 18446744073709551616) - 1, by omega⟩
  · rw [if_neg h]; exact ⟨-(x / 18446744073709551616), by omega⟩
theorem i64_mod (x : Int) : IntKind.i64.wrap (x % 18446744073709551616) = IntKind.i64.wrap x := by
  rw [i64_wrap', i64_wrap', Int.emod_emod_of_dvd _ (Int.dvd_refl _)]
theorem add64I (x y c : Int) (hx : 0 ≤ x) (hy : 0 ≤ y) (hx2 : x < 18446744073709551616) (hy2 : y < 18446744073709551616) (hc : 0 ≤ c) (hc2 : c ≤ 1) : FSpec Try.prog 83 [(false, [.v (.int .u64 x)]), (false, [.v (.int .u64 y)]), (false, [.v (.int .u64 c)])]
    [.one (.d (.v (.int .u64 ((x + y + c) % 18446744073709551616)))), .one (.d (.v (.int .u64 ((x + y + c) / 18446744073709551616))))] := by
  have h := add64_spec x.toNat y.toNat c.toNat (by omega)
  simp only [Int.natCast_emod, Int.natCast_ediv, Int.natCast_add, Int.toNat_of_nonneg hx, Int.toNat_of_nonneg hy, Int.toNat_of_nonneg hc] at h
  exact h
theorem mul64I (x y : Int) (hx : 0 ≤ x) (hy : 0 ≤ y) (hx2 : x < 18446744073709551616) (hy2 : y < 18446744073709551616) : FSpec Try.prog 113 [(false, [.v (.int .u64 x)]), (false, [.v (.int .u64 y)])]
    [.one (.d (.v (.int .u64 (x * y / 18446744073709551616)))), .one (.d (.v (.int .u64 (x * y % 18446744073709551616))))] := by
  have e : (2 : Nat) ^ 64 = 18446744073709551616 := by decide
  have h := mul64_spec x.toNat y.toNat (by omega) (by omega)
  rw [e] at h
  simp only [Int.natCast_emod, Int.natCast_ediv, Int.natCast_mul, Int.toNat_of_nonneg hx, Int.toNat_of_nonneg hy] at h
  exact h
theorem sub64I (x y c : Int) (hx : 0 ≤ x) (hy : 0 ≤ y) (hx2 : x < 18446744073709551616) (hy2 : y < 18446744073709551616) (hc : 0 ≤ c) (hc2 : c ≤ 1) : FSpec Try.prog 141 [(false, [.v (.int .u64 x)]), (false, [.v (.int .u64 y)]), (false, [.v (.int .u64 c)])]
    [.one (.d (.v (.int .u64 ((x - y - c) % 18446744073709551616)))), .one (.d (.v (.int .u64 (-((x - y - c) / 18446744073709551616)))))] := by
  obtain ⟨x, rfl⟩ := Int.eq_ofNat_of_zero_le hx
  obtain ⟨y, rfl⟩ := Int.eq_ofNat_of_zero_le hy
  obtain ⟨c, rfl⟩ := Int.eq_ofNat_of_zero_le hc
  refine fspec_plain (xs := [.int .u64 x, .int .u64 y, .int .u64 c]) (vs := [.int .u64 (((x : Int) - y - c) % 18446744073709551616), .int .u64 (-(((x : Int) - y - c) / 18446744073709551616))]) (by simp [Value.oneCell']) (by simp) (fun w => ?_)
  show (callFunc 141 #[.int .u64 x, .int .u64 y, .int .u64 c]).run Try.prog w = _
  rw [run_callFunc_extern Try.func141 (by kernel_rfl) (by kernel_rfl) (by kernel_rfl) (e := sub64Entry) (by kernel_rfl), run_sub64 x y c (by omega)]
  have e1 : (((x + 18446744073709551616 - y - c) % 18446744073709551616 : Nat) : Int) = ((x : Int) - y - c) % 18446744073709551616 := by omega
  have e2 : ((if x < y + c then 1 else 0 : Nat) : Int) = -(((x : Int) - y - c) / 18446744073709551616) := by split <;> omega
  rw [e1, e2]
  rfl
end Go.Ax
