/- wide.Div. -/
import Derived.Test.YtoojnlkkmppjiaaSd9
set_option linter.unusedVariables false
set_option linter.unusedSimpArgs false
set_option linter.unusedSimpArgs false
set_option linter.unusedVariables false
namespace Go.Ax
open Go Go.Proofs
set_option maxRecDepth 100000
/-- What a division tells. -/
def divAns (z d : Int) : List Comp := if d < 1 then [.agg (wD 0), .one (.d (.v (.int .i64 0))), .one (.d (.v (.bool false)))] else [.agg (wD (z / d)), .one (.d (.v (.int .i64 (z % d)))), .one (.d (.v (.bool true)))]
theorem two_div (h l d : Int) (hd : 0 < d) (hh : 0 ≤ h) (hl : 0 ≤ l) (hl2 : l < 18446744073709551616) :
    (h * 18446744073709551616 + l) / d = h / d * 18446744073709551616 + (h % d * 18446744073709551616 + l) / d ∧ (h * 18446744073709551616 + l) % d = (h % d * 18446744073709551616 + l) % d ∧ (h % d * 18446744073709551616 + l) / d < 18446744073709551616 ∧ 0 ≤ (h % d * 18446744073709551616 + l) / d := by
  have e := Int.mul_ediv_add_emod h d
  have r1 := Int.emod_nonneg h (by omega : d ≠ 0)
  have r2 := Int.emod_lt_of_pos h hd
  have e2 := Int.mul_ediv_add_emod (h % d * 18446744073709551616 + l) d
  have r3 := Int.emod_nonneg (h % d * 18446744073709551616 + l) (by omega : d ≠ 0)
  have r4 := Int.emod_lt_of_pos (h % d * 18446744073709551616 + l) hd
  have q4 : (h % d * 18446744073709551616 + l) / d < 18446744073709551616 := Int.ediv_lt_of_lt_mul hd (by omega)
  have q5 : 0 ≤ (h % d * 18446744073709551616 + l) / d := Int.ediv_nonneg (by omega) (by omega)
  obtain ⟨a1, a2⟩ := ed_unique (M := h * 18446744073709551616 + l) (q := h / d * 18446744073709551616 + (h % d * 18446744073709551616 + l) / d) (r := (h % d * 18446744073709551616 + l) % d) hd (by
    rw [Int.mul_add, ← Int.mul_assoc]
    generalize d * (h / d) = p at *
    generalize d * ((h % d * 18446744073709551616 + l) / d) = s at *
    omega) r3 r4
  exact ⟨a1, a2, q4, q5⟩
theorem wdiv_spec (z d : Int) (hz : Wid z) (hd : I64 d) : FSpec Try.prog 46 [(true, wD z), (false, [.v (.int .i64 d)])] (divAns z d) := by
  refine fspec_of aDraw (aDraw_ok mixed) Try.func46 rfl (by decide) [0, 1, 2, 4, 5, 6, 7, 8, 9, 10, 11, 12, 13, 14, 15] (rs := [.cell 4 44, .tmp 5, .tmp 6]) rfl (by decide) (n := 70) rfl (by simp) ?_
  have hz' := hz
  have hd' := hd
  simp only [Wid, I64] at hz' hd'
  simp only [go_sem, ↓reduceIte, reduceCtorEq, Nat.reduceLT, Nat.reduceLeDiff, Nat.reduceEqDiff, Nat.reduceMul, Nat.reduceAdd, Nat.reduceSub, Int.reduceLE, Int.reduceLT, wD]
  refine ⟨fun h => ?_, fun h => ?_⟩
  · rw [divAns, if_pos h]
    rfl
  have h0 : 0 < d := by omega
  have hws := wsize_spec z hz
  have hn : 0 ≤ (z.natAbs : Int) ∧ (z.natAbs : Int) ≤ 170141183460469231731687303715884105728 := by omega
  have hneg : z < 0 → z = -(z.natAbs : Int) := by omega
  have hpos : ¬ z < 0 → z = (z.natAbs : Int) := by omega
  generalize (z.natAbs : Int) = n at *
  have en : n = n / 18446744073709551616 * 18446744073709551616 + n % 18446744073709551616 := by omega
  have hh : 0 ≤ n / 18446744073709551616 ∧ n / 18446744073709551616 ≤ 9223372036854775808 := by omega
  have hl : 0 ≤ n % 18446744073709551616 ∧ n % 18446744073709551616 < 18446744073709551616 := by omega
  obtain ⟨t1, t2, t3, t4⟩ := two_div (n / 18446744073709551616) (n % 18446744073709551616) d h0 hh.1 hl.1 hl.2
  rw [← en] at t1 t2
  have r1 := Int.emod_nonneg (n / 18446744073709551616) (by omega : d ≠ 0)
  have r2 := Int.emod_lt_of_pos (n / 18446744073709551616) h0
  have q1 := Int.ediv_nonneg hh.1 (by omega : 0 ≤ d)
  have q2 := Int.ediv_le_self d hh.1
  have r3 := Int.emod_nonneg (n / 18446744073709551616 % d * 18446744073709551616 + n % 18446744073709551616) (by omega : d ≠ 0)
  have r4 := Int.emod_lt_of_pos (n / 18446744073709551616 % d * 18446744073709551616 + n % 18446744073709551616) h0
  have d1 := div64_low (n / 18446744073709551616) d hh.1 (by omega) h0 (by omega)
  have d2 := div64I (n / 18446744073709551616 % d) (n % 18446744073709551616) d r1 r2 hl.1 hl.2 h0 (by omega)
  refine aCall_of hws ?_
  simp only [go_sem, ↓reduceIte, reduceCtorEq, Nat.reduceLT, Nat.reduceLeDiff, Nat.reduceEqDiff, Nat.reduceMul, Nat.reduceAdd, Nat.reduceSub, Int.reduceLE, Int.reduceLT]
  have ed : IntKind.u64.wrap d = d := by rw [u64_mod]; omega
  rw [ed]
  refine aCall_of d1 ?_
  simp only [go_sem, ↓reduceIte, reduceCtorEq, Nat.reduceLT, Nat.reduceLeDiff, Nat.reduceEqDiff, Nat.reduceMul, Nat.reduceAdd, Nat.reduceSub, Int.reduceLE, Int.reduceLT]
  refine aCall_of d2 ?_
  simp only [go_sem, ↓reduceIte, reduceCtorEq, Nat.reduceLT, Nat.reduceLeDiff, Nat.reduceEqDiff, Nat.reduceMul, Nat.reduceAdd, Nat.reduceSub, Int.reduceLE, Int.reduceLT]
  generalize n / 18446744073709551616 % d * 18446744073709551616 + n % 18446744073709551616 = m at *
  generalize n / 18446744073709551616 / d = up at *
  have en2 := Int.mul_ediv_add_emod n d
  rw [t1, t2] at en2
  have hq0 : 0 ≤ up * 18446744073709551616 + m / d := by omega
  have hle : 1 * (up * 18446744073709551616 + m / d) ≤ d * (up * 18446744073709551616 + m / d) := Int.mul_le_mul_of_nonneg_right (by omega) hq0
  have neg : ∀ q r : Int, d * q + r = -n → 0 ≤ r → r < d → z < 0 → divAns z d = [.agg (wD q), .one (.d (.v (.int .i64 r))), .one (.d (.v (.bool true)))] := fun q r h1 h2 h3 h4 => by
    obtain ⟨e1, e2⟩ := ed_unique (M := z) (q := q) (r := r) h0 (by have := hneg h4; omega) h2 h3
    rw [divAns, if_neg h, e1, e2]
  generalize hA : up * 18446744073709551616 + m / d = A at *
  generalize hdA : d * A = dA at *
  generalize hlo : m / d = lo at *
  generalize hrr : m % d = rr at *
  refine ⟨fun h1 => ?_, fun h1 => ⟨fun h2 => ?_, fun h2 => ?_⟩⟩
  · have hz0 : ¬ z < 0 := by have := wHi_neg z; omega
    obtain ⟨e1, e2⟩ := ed_unique (M := z) (q := A) (r := rr) h0 (by have := hpos hz0; omega) r3 r4
    rw [divAns, if_neg h, e1, e2, i64_wrap up (by omega) (by have := hpos hz0; omega), i64_wrap rr (by omega) (by omega), wD]
    rw [show wHi A = up by simp only [wHi]; omega, show wLo A = lo by simp only [wLo]; omega]
  · have hz0 : z < 0 := by have := wHi_neg z; omega
    refine aCall_of (add64I lo 1 0 (by omega) (by omega) (by omega) (by omega) (by omega) (by omega)) ?_
    simp only [go_sem, ↓reduceIte, reduceCtorEq, Nat.reduceLT, Nat.reduceLeDiff, Nat.reduceEqDiff, Nat.reduceMul, Nat.reduceAdd, Nat.reduceSub, Int.reduceLE, Int.reduceLT]
    have ew : IntKind.u64.wrap (up + (lo + 1 + 0) / 18446744073709551616) = up + (lo + 1 + 0) / 18446744073709551616 := by rw [u64_mod]; omega
    have er : IntKind.i64.wrap (IntKind.u64.wrap (d - rr)) = d - rr := by rw [u64_mod, i64_wrap _ (by omega) (by omega)]; omega
    rw [ew]
    have hs := wsigned_spec true (up + (lo + 1 + 0) / 18446744073709551616) ((lo + 1 + 0) % 18446744073709551616) (by omega) (by omega) (by omega) (by omega)
    rw [show (up + (lo + 1 + 0) / 18446744073709551616) * 18446744073709551616 + (lo + 1 + 0) % 18446744073709551616 = A + 1 by omega, wAns_yes (by simp only [sgnI, Wid, if_true]; omega)] at hs
    simp only [sgnI, if_true] at hs
    refine aCall_of hs ?_
    simp only [go_sem, ↓reduceIte, reduceCtorEq, Nat.reduceLT, Nat.reduceLeDiff, Nat.reduceEqDiff, Nat.reduceMul, Nat.reduceAdd, Nat.reduceSub, Int.reduceLE, Int.reduceLT, er, wD]
    rw [neg (-(A + 1)) (d - rr) (by rw [Int.mul_neg, Int.mul_add, hdA]; omega) (by omega) (by omega) hz0]
    rfl
  · have hz0 : z < 0 := by have := wHi_neg z; omega
    have hs := wsigned_spec true up lo (by omega) (by omega) (by omega) (by omega)
    rw [hA, wAns_yes (by simp only [sgnI, Wid, if_true]; omega)] at hs
    simp only [sgnI, if_true] at hs
    refine aCall_of hs ?_
    simp only [go_sem, ↓reduceIte, reduceCtorEq, Nat.reduceLT, Nat.reduceLeDiff, Nat.reduceEqDiff, Nat.reduceMul, Nat.reduceAdd, Nat.reduceSub, Int.reduceLE, Int.reduceLT, wD]
    rw [neg (-A) rr (by rw [Int.mul_neg, hdA]; omega) (by omega) (by omega) hz0, i64_wrap rr (by omega) (by omega)]
    rfl
end Go.Ax
