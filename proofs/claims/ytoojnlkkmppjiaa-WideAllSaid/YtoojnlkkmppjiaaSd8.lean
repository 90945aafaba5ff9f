/- bits.Len64, LeadingZeros64, Div64. -/
import Derived.Test.YtoojnlkkmppjiaaSd7
set_option linter.unusedVariables false
set_option linter.unusedSimpArgs false
set_option linter.unusedSimpArgs false
set_option linter.unusedVariables false
namespace Go.Ax
open Go Go.Proofs
set_option maxRecDepth 100000
/-! A quotient's digit, guessed by its first digits and put right. -/
theorem kn_split (q a b : Int) : q * (a * 4294967296 + b) = q * a * 4294967296 + q * b := by rw [Int.mul_add, Int.mul_assoc]
theorem kn_init {u u1 a b : Int} (ha : 0 < a) (hb : 0 ≤ b) (hu : 0 ≤ u) (h1 : 0 ≤ u1) (h2 : u1 < 4294967296) : (u * 4294967296 + u1) / (a * 4294967296 + b) ≤ u / a := by
  have e := Int.mul_ediv_add_emod u a
  have r := Int.emod_lt_of_pos u ha
  have q0 := Int.ediv_nonneg hu (by omega : 0 ≤ a)
  have k : (u * 4294967296 + u1) / (a * 4294967296 + b) < u / a + 1 := by
    refine Int.ediv_lt_of_lt_mul (by omega) ?_
    rw [Int.add_mul, kn_split, Int.one_mul]
    have hqb : 0 ≤ u / a * b := Int.mul_nonneg q0 hb
    rw [Int.mul_comm a] at e
    generalize u / a * a = p at *
    generalize u / a * b = s at *
    omega
  omega
theorem kn_bound {u a b : Int} (ha : 2147483648 ≤ a) (hb : b < 4294967296) (hu : u < a * 4294967296 + b) : u / a ≤ 4294967297 := by
  have : u / a < 4294967298 := by
    refine Int.ediv_lt_of_lt_mul (by omega) ?_
    omega
  omega
theorem kn_high {u u1 d : Int} (hd : 0 < d) (hu : u < d) (h2 : u1 < 4294967296) : (u * 4294967296 + u1) / d < 4294967296 := Int.ediv_lt_of_lt_mul hd (by omega)
/-- What a round keeps. -/
def Kn (u u1 a b q r : Int) : Prop := (u * 4294967296 + u1) / (a * 4294967296 + b) ≤ q ∧ q * a + r = u ∧ 0 ≤ r ∧ r < 4294967296 ∧ 0 ≤ q ∧ q ≤ 4294967297
theorem kn_done {u u1 a b q r : Int} (ha : 0 < a) (hb : 0 ≤ b) (h : Kn u u1 a b q r) (h1 : q * b ≤ 4294967296 * r + u1) : q = (u * 4294967296 + u1) / (a * 4294967296 + b) := by
  obtain ⟨k1, k2, k3, k4, k5, k6⟩ := h
  have : q ≤ (u * 4294967296 + u1) / (a * 4294967296 + b) := by
    refine Int.le_ediv_of_mul_le (by omega) ?_
    rw [kn_split]
    generalize q * a = p at *
    generalize q * b = s at *
    omega
  omega
theorem kn_next {u u1 a b q r : Int} (ha : 2147483648 ≤ a) (ha2 : a < 4294967296) (hb : 0 ≤ b) (hb2 : b < 4294967296) (hu : u < a * 4294967296 + b) (h2 : 0 ≤ u1) (h3 : u1 < 4294967296) (h : Kn u u1 a b q r) (hc : q ≥ 4294967296 ∨ q * b > 4294967296 * r + u1) :
    0 < q ∧ (r + a < 4294967296 → Kn u u1 a b (q - 1) (r + a)) ∧ (¬ r + a < 4294967296 → q - 1 = (u * 4294967296 + u1) / (a * 4294967296 + b)) := by
  obtain ⟨k1, k2, k3, k4, k5, k6⟩ := h
  have hlt : (u * 4294967296 + u1) / (a * 4294967296 + b) < q := by
    rcases hc with hc | hc
    · have := kn_high (u1 := u1) (by omega : 0 < a * 4294967296 + b) hu h3
      omega
    · refine Int.ediv_lt_of_lt_mul (by omega) ?_
      rw [kn_split]
      generalize q * a = p at *
      generalize q * b = s at *
      omega
  have hq0 : 0 ≤ (u * 4294967296 + u1) / (a * 4294967296 + b) := by
    refine Int.ediv_nonneg ?_ (by omega)
    have : 0 ≤ q * a := Int.mul_nonneg k5 (by omega)
    omega
  have e : (q - 1) * a + (r + a) = u := by rw [Int.sub_mul, Int.one_mul]; omega
  refine ⟨by omega, fun h => ⟨by omega, e, by omega, h, by omega, by omega⟩, fun h => ?_⟩
  have : q - 1 ≤ (u * 4294967296 + u1) / (a * 4294967296 + b) := by
    refine Int.le_ediv_of_mul_le (by omega) ?_
    rw [kn_split]
    have hqb : (q - 1) * b ≤ 4294967296 * b := Int.mul_le_mul_of_nonneg_right (by omega) hb
    generalize (q - 1) * a = p at *
    generalize (q - 1) * b = s at *
    omega
  omega
theorem kn_rest (u u1 d q : Int) (hd : 0 < d) (hd2 : d < 18446744073709551616) (h : q = (u * 4294967296 + u1) / d) :
    IntKind.u64.wrap (IntKind.u64.wrap (IntKind.u64.wrap (u * 4294967296) + u1) - IntKind.u64.wrap (q * d)) = (u * 4294967296 + u1) % d := by
  have e := Int.mul_ediv_add_emod (u * 4294967296 + u1) d
  have r1 := Int.emod_nonneg (u * 4294967296 + u1) (by omega : d ≠ 0)
  have r2 := Int.emod_lt_of_pos (u * 4294967296 + u1) hd
  rw [← h, Int.mul_comm] at e
  rw [u64_mod, u64_mod, u64_mod, u64_mod]
  generalize q * d = p at *
  omega
/-- How many bits a number below 256 has. -/
def len8 : ByteArray := ⟨#[0, 1, 2, 2, 3, 3, 3, 3, 4, 4, 4, 4, 4, 4, 4, 4, 5, 5, 5, 5, 5, 5, 5, 5, 5, 5, 5, 5, 5, 5, 5, 5, 6, 6, 6, 6, 6, 6, 6, 6, 6, 6, 6, 6, 6, 6, 6, 6, 6, 6, 6, 6, 6, 6, 6, 6, 6, 6, 6, 6, 6, 6, 6, 6, 7, 7, 7, 7, 7, 7, 7, 7, 7, 7, 7, 7, 7, 7, 7, 7, 7, 7, 7, 7, 7, 7, 7, 7, 7, 7, 7, 7, 7, 7, 7, 7, 7, 7, 7, 7, 7, 7, 7, 7, 7, 7, 7, 7, 7, 7, 7, 7, 7, 7, 7, 7, 7, 7, 7, 7, 7, 7, 7, 7, 7, 7, 7, 7, 8, 8, 8, 8, 8, 8, 8, 8, 8, 8, 8, 8, 8, 8, 8, 8, 8, 8, 8, 8, 8, 8, 8, 8, 8, 8, 8, 8, 8, 8, 8, 8, 8, 8, 8, 8, 8, 8, 8, 8, 8, 8, 8, 8, 8, 8, 8, 8, 8, 8, 8, 8, 8, 8, 8, 8, 8, 8, 8, 8, 8, 8, 8, 8, 8, 8, 8, 8, 8, 8, 8, 8, 8, 8, 8, 8, 8, 8, 8, 8, 8, 8, 8, 8, 8, 8, 8, 8, 8, 8, 8, 8, 8, 8, 8, 8, 8, 8, 8, 8, 8, 8, 8, 8, 8, 8, 8, 8, 8, 8, 8, 8, 8, 8, 8, 8, 8, 8, 8, 8, 8, 8, 8, 8, 8, 8, 8, 8]⟩
theorem len8_get : ∀ k : Nat, k < 256 → len8[k]? = some (UInt8.ofNat (if k = 0 then 0 else Nat.log2 k + 1)) := by decide +kernel
theorem div64_low (y d : Int) (hy : 0 ≤ y) (hy2 : y < 18446744073709551616) (hd : 0 < d) (hd2 : d < 18446744073709551616) : FSpec Try.prog 61 [(false, [.v (.int .u64 0)]), (false, [.v (.int .u64 y)]), (false, [.v (.int .u64 d)])] [.one (.d (.v (.int .u64 (y / d)))), .one (.d (.v (.int .u64 (y % d))))] := by
  refine fspec_of aDraw (aDraw_ok mixed) Try.func61 rfl (by decide) [0, 1, 2, 6, 7, 8, 9, 10, 11, 12, 13, 14, 15, 16, 17, 18] (rs := [.tmp 6, .tmp 7]) rfl (by decide) (n := 135) rfl (by simp) ?_
  simp only [go_sem, ↓reduceIte, reduceCtorEq, Nat.reduceLT, Nat.reduceLeDiff, Nat.reduceEqDiff, Nat.reduceMul, Nat.reduceAdd, Nat.reduceSub, Int.reduceLE, Int.reduceLT]
  have h1 : y.tdiv d = y / d := Int.tdiv_eq_ediv_of_nonneg hy
  have h2 : y.tmod d = y % d := Int.tmod_eq_emod_of_nonneg hy
  have q0 := Int.ediv_nonneg hy (by omega : 0 ≤ d)
  have q1 := Int.ediv_le_self d hy
  rw [h1, h2, u64_mod, Int.emod_eq_of_lt q0 (by omega)]
  exact ⟨fun h => by omega, fun h => ⟨fun h => by omega, fun _ => ⟨h, h, by kernel_rfl, rfl⟩⟩⟩
theorem log2_shift (n j : Nat) (h : 0 < n / 2 ^ j) : Nat.log2 n = Nat.log2 (n / 2 ^ j) + j := by
  have hn : n ≠ 0 := fun e => by subst e; simp at h
  have h1 := (Nat.log2_eq_iff (k := Nat.log2 (n / 2 ^ j)) (by omega : n / 2 ^ j ≠ 0)).1 rfl
  refine (Nat.log2_eq_iff hn).2 ⟨?_, ?_⟩
  · rw [Nat.pow_add]
    exact (Nat.le_div_iff_mul_le (Nat.pow_pos (by decide))).1 h1.1
  · rw [show Nat.log2 (n / 2 ^ j) + j + 1 = Nat.log2 (n / 2 ^ j) + 1 + j by omega, Nat.pow_add]
    exact (Nat.div_lt_iff_lt_mul (Nat.pow_pos (by decide))).1 h1.2
theorem len_leaf (n j : Nat) (e c : Int) (he : e = ((n / 2 ^ j : Nat) : Int)) (h1 : n / 2 ^ j < 256) (h0 : 0 < n / 2 ^ j) (hc : c = j) (hj : j ≤ 56) :
    0 ≤ IntKind.u8.wrap e ∧ ∃ b, len8[(IntKind.u8.wrap e).toNat]? = some b ∧ [Comp.one (.d (.v (.int .i64 (IntKind.i64.wrap (c + IntKind.i64.wrap (b.toNat : Int))))))] = [Comp.one (.d (.v (.int .i64 ((Nat.log2 n + 1 : Nat) : Int))))] := by
  subst he hc
  have hl := log2_shift n j h0
  generalize hm : n / 2 ^ j = m at *
  have e8 : (2 : Int) ^ 8 = 256 := by decide
  have hw : IntKind.u8.wrap (m : Int) = m := by
    simp only [IntKind.wrap, IntKind.bits, IntKind.signed, e8, Bool.false_and, Bool.false_eq_true, if_false]
    omega
  have hlog : Nat.log2 m < 8 := by
    rw [Nat.log2_lt (by omega)]
    omega
  rw [hw]
  refine ⟨by omega, _, by rw [Int.toNat_natCast]; exact len8_get m h1, ?_⟩
  rw [if_neg (by omega)]
  have hb : (UInt8.ofNat (Nat.log2 m + 1)).toNat = Nat.log2 m + 1 := by
    rw [UInt8.toNat_ofNat']
    omega
  rw [hb, i64_wrap ((Nat.log2 m + 1 : Nat) : Int) (by omega) (by omega), i64_wrap _ (by omega) (by omega), hl]
  congr 5
  omega
theorem len64_spec (n : Nat) (hn : n < 2 ^ 64) (h0 : 0 < n) : FSpec Try.prog 65 [(false, [.v (.int .u64 (n : Int))])] [.one (.d (.v (.int .i64 ((Nat.log2 n + 1 : Nat) : Int))))] := by
  refine fspec_of aDraw (aDraw_ok mixed) Try.func65 rfl (by decide) [0, 2] (rs := [.tmp 2]) rfl (by decide) (n := 25) rfl (by simp) ?_
  have f16 : ∀ m : Nat, (m : Int).fdiv (2 ^ min (Int.toNat 16) 64) = ((m / 2 ^ 16 : Nat) : Int) := fun m => by
    rw [show min (Int.toNat 16) 64 = 16 by decide, Int.fdiv_eq_ediv_of_nonneg _ (by decide)]; rfl
  have f8 : ∀ m : Nat, (m : Int).fdiv (2 ^ min (Int.toNat 8) 64) = ((m / 2 ^ 8 : Nat) : Int) := fun m => by
    rw [show min (Int.toNat 8) 64 = 8 by decide, Int.fdiv_eq_ediv_of_nonneg _ (by decide)]; rfl
  simp only [go_sem, ↓reduceIte, reduceCtorEq, Nat.reduceLT, Nat.reduceLeDiff, Nat.reduceEqDiff, Nat.reduceMul, Nat.reduceAdd, Nat.reduceSub, Int.reduceLE, Int.reduceLT]
  simp only [f16, f8, Nat.div_div_eq_div_mul, ← Nat.pow_add, Nat.reduceAdd, show IntKind.i64.wrap (IntKind.i64.wrap (32 + 16) + 8) = 56 from rfl, show IntKind.i64.wrap (32 + 16) = 48 from rfl, show IntKind.i64.wrap (32 + 8) = 40 from rfl, show IntKind.i64.wrap (16 + 8) = 24 from rfl, show IntKind.i64.wrap (0 + 16) = 16 from rfl, show IntKind.i64.wrap (IntKind.i64.wrap (0 + 16) + 8) = 24 from rfl, show IntKind.i64.wrap (0 + 8) = 8 from rfl, show IntKind.i64.wrap (16 + 8) = 24 from rfl]
  refine ⟨fun h1 => ⟨fun h2 => ⟨fun h3 => ?_, fun h3 => ?_⟩, fun h2 => ⟨fun h3 => ?_, fun h3 => ?_⟩⟩, fun h1 => ⟨fun h2 => ⟨fun h3 => ?_, fun h3 => ?_⟩, fun h2 => ⟨fun h3 => ?_, fun h3 => ?_⟩⟩⟩
  · exact len_leaf n 56 _ _ rfl (by omega) (by omega) rfl (by omega)
  · exact len_leaf n 48 _ _ rfl (by omega) (by omega) rfl (by omega)
  · exact len_leaf n 40 _ _ rfl (by omega) (by omega) rfl (by omega)
  · exact len_leaf n 32 _ _ rfl (by omega) (by omega) rfl (by omega)
  · exact len_leaf n 24 _ _ rfl (by omega) (by omega) rfl (by omega)
  · exact len_leaf n 16 _ _ rfl (by omega) (by omega) rfl (by omega)
  · exact len_leaf n 8 _ _ rfl (by omega) (by omega) rfl (by omega)
  · exact len_leaf n 0 _ _ (by rw [Nat.pow_zero, Nat.div_one]) (by omega) (by omega) rfl (by omega)
theorem lz64_spec (n : Nat) (hn : n < 2 ^ 64) (h0 : 0 < n) : FSpec Try.prog 64 [(false, [.v (.int .u64 (n : Int))])] [.one (.d (.v (.int .i64 ((63 - Nat.log2 n : Nat) : Int))))] := by
  refine fspec_of aDraw (aDraw_ok mixed) Try.func64 rfl (by decide) [0, 2] (rs := [.tmp 2]) rfl (by decide) (n := 6) rfl (by simp) ?_
  have hlog : Nat.log2 n < 64 := (Nat.log2_lt (by omega)).2 hn
  simp only [go_sem, ↓reduceIte, reduceCtorEq, Nat.reduceLT, Nat.reduceLeDiff, Nat.reduceEqDiff, Nat.reduceMul, Nat.reduceAdd, Nat.reduceSub, Int.reduceLE, Int.reduceLT]
  refine aCall_of (len64_spec n hn h0) ?_
  simp only [go_sem, ↓reduceIte, reduceCtorEq, Nat.reduceLT, Nat.reduceLeDiff, Nat.reduceEqDiff, Nat.reduceMul, Nat.reduceAdd, Nat.reduceSub, Int.reduceLE, Int.reduceLT]
  rw [i64_wrap _ (by omega) (by omega)]
  congr 5
  omega
end Go.Ax
