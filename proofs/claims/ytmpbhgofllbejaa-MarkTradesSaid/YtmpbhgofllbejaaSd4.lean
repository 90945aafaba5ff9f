/- wide.Sum; the reference's Wide, Sized, Sign, Cmp, half. -/
import Derived.Test.YtmpbhgofllbejaaSd3
set_option linter.unusedVariables false
set_option linter.unusedSimpArgs false
set_option linter.unusedSimpArgs false
set_option linter.unusedVariables false
namespace Go.Ax
open Go Go.Proofs
set_option maxRecDepth 100000
/-- Rows of wide numbers. -/
def rowsW (l : List Int) : List (List D) := l.map wD
theorem length_rowsW (l : List Int) : (rowsW l).length = l.length := by simp [rowsW]
theorem getD_rowsW (l : List Int) (i : Nat) : (rowsW l).getD i [.v (.int .i64 0), .v (.int .u64 0)] = [.v (.int .i64 (wHi (l[i]?.getD 0))), .v (.int .u64 (wLo (l[i]?.getD 0)))] := by
  rw [List.getD_eq_getElem?_getD]
  simp only [rowsW, List.getElem?_map]
  cases l[i]? <;> rfl
theorem rowsW_len (l : List Int) : (∀ r ∈ rowsW l, r.length = 2) = True := by simp [rowsW, wD]
attribute [go_sem] length_rowsW getD_rowsW rowsW_len
theorem sumW_bound {l : List Int} (hl : ∀ x ∈ l, Wid x) (i : Nat) (hi : i ≤ l.length) : (sumI l i).natAbs ≤ i * 170141183460469231731687303715884105728 := by
  induction i with
  | zero => simp [sumI]
  | succ i ih =>
    have := ih (by omega)
    have hw := hl (l[i]?.getD 0) (by rw [List.getElem?_eq_getElem (by omega)]; exact List.getElem_mem _)
    rw [sumI_succ (by omega)]
    simp only [Wid] at hw
    omega
theorem sum_step (S z : Int) (hz : Wid z) : (S % 18446744073709551616 + wLo z + 0) % 18446744073709551616 = (S + z) % 18446744073709551616 ∧
    (S / 18446744073709551616 % 18446744073709551616 + IntKind.u64.wrap (wHi z) + (S % 18446744073709551616 + wLo z + 0) / 18446744073709551616) % 18446744073709551616 = (S + z) / 18446744073709551616 % 18446744073709551616 ∧
    S / 18446744073709551616 / 18446744073709551616 + (if wHi z < 0 then -1 else 0) + (S / 18446744073709551616 % 18446744073709551616 + IntKind.u64.wrap (wHi z) + (S % 18446744073709551616 + wLo z + 0) / 18446744073709551616) / 18446744073709551616 = (S + z) / 18446744073709551616 / 18446744073709551616 := by
  rw [u64_mod]
  refine ⟨by simp only [wLo]; omega, by simp only [wHi, wLo]; omega, ?_⟩
  by_cases h : wHi z < 0
  · rw [if_pos h]; simp only [wHi, wLo, Wid] at *; omega
  · rw [if_neg h]; simp only [wHi, wLo, Wid] at *; omega
theorem wsum_spec (l : List Int) (hl : ∀ x ∈ l, Wid x) (hn : l.length < 2 ^ 40) : FSpec Try.prog 73 [(false, [.l (rowsW l)])] (wAns l.sum) := by
  refine fspec_of aDraw (aDraw_ok mixed) Try.func73 rfl (by decide) [0, 2, 3, 4, 5, 6, 8, 9, 10, 11, 12] (rs := [.cell 2 59, .tmp 3]) rfl (by decide) (n := 51) rfl (by simp) ?_
  simp (maxSteps := 2000000) only [go_sem, p_kSeq, ↓reduceIte, reduceCtorEq, Nat.reduceLT, Nat.reduceLeDiff, Nat.reduceEqDiff, Nat.reduceMul, Nat.reduceAdd, Nat.reduceSub, Int.reduceLE, Int.reduceLT]
  rw [aCode_loop]
  refine aLoop_of (α := Nat × T × T) (fun p => ⟨51, [], [(0, .one (.l (rowsW l))), (2, .box [.d (.v (.int .i64 0)), .d (.v (.int .u64 0))]), (3, .one (.v (.bool false))), (4, .one (.v (.int .i64 (sumI l p.1 / 18446744073709551616 / 18446744073709551616)))), (5, .one (.v (.int .u64 (sumI l p.1 / 18446744073709551616 % 18446744073709551616)))), (6, .one (.v (.int .u64 (sumI l p.1 % 18446744073709551616)))), (8, p.2.1), (9, p.2.2), (10, .one (.l (rowsW l))), (11, .one (.v (.int .i64 l.length))), (12, .one (.v (.int .i64 p.1)))]⟩)
    (fun p => p.1 ≤ l.length) (fun p => l.length - p.1) (0, .none, .none) (Nat.zero_le _) rfl (fun ⟨i, t8, t9⟩ g1 => ?_)
  simp only at g1
  have hb := sumW_bound hl i g1
  have hS : -(1099511627776 * 170141183460469231731687303715884105728) ≤ sumI l i ∧ sumI l i ≤ 1099511627776 * 170141183460469231731687303715884105728 := by omega
  simp (maxSteps := 2000000) only [go_sem, p_kSeq, ↓reduceIte, reduceCtorEq, Nat.reduceLT, Nat.reduceLeDiff, Nat.reduceEqDiff, Nat.reduceMul, Nat.reduceAdd, Nat.reduceSub, Int.reduceLE, Int.reduceLT]
  refine ⟨fun h => ?_, fun h => ?_⟩
  · have hz := hl (l[i]?.getD 0) (by rw [List.getElem?_eq_getElem (by omega)]; exact List.getElem_mem _)
    have hs := sumI_succ (l := l) (n := i) (by omega)
    rw [Int.toNat_natCast]
    generalize l[i]?.getD 0 = z at *
    have hl2 := wLo_lt z
    obtain ⟨e1, e2, e3⟩ := sum_step (sumI l i) z hz
    generalize hSS : sumI l i = SS at *
    refine ⟨by omega, h, ?_⟩
    refine aCall_of (add64I (SS % 18446744073709551616) (wLo z) 0 (by omega) hl2.1 (by omega) hl2.2 (by omega) (by omega)) ?_
    simp (maxSteps := 2000000) only [go_sem, p_kSeq, ↓reduceIte, reduceCtorEq, Nat.reduceLT, Nat.reduceLeDiff, Nat.reduceEqDiff, Nat.reduceMul, Nat.reduceAdd, Nat.reduceSub, Int.reduceLE, Int.reduceLT]
    refine aCall_of (add64I (SS / 18446744073709551616 % 18446744073709551616) (IntKind.u64.wrap (wHi z)) ((SS % 18446744073709551616 + wLo z + 0) / 18446744073709551616) (by omega) (u64_lt _).1 (by omega) (u64_lt _).2 (by omega) (by omega)) ?_
    simp (maxSteps := 2000000) only [go_sem, p_kSeq, ↓reduceIte, reduceCtorEq, Nat.reduceLT, Nat.reduceLeDiff, Nat.reduceEqDiff, Nat.reduceMul, Nat.reduceAdd, Nat.reduceSub, Int.reduceLE, Int.reduceLT]
    have c2 : 0 ≤ (SS / 18446744073709551616 % 18446744073709551616 + IntKind.u64.wrap (wHi z) + (SS % 18446744073709551616 + wLo z + 0) / 18446744073709551616) / 18446744073709551616 ∧ (SS / 18446744073709551616 % 18446744073709551616 + IntKind.u64.wrap (wHi z) + (SS % 18446744073709551616 + wLo z + 0) / 18446744073709551616) / 18446744073709551616 ≤ 1 := by
      have := u64_lt (wHi z)
      omega
    have e5 : IntKind.i64.wrap (IntKind.i64.wrap (SS / 18446744073709551616 / 18446744073709551616 + (wHi z).fdiv (2 ^ min (Int.toNat 63) 64)) + IntKind.i64.wrap ((SS / 18446744073709551616 % 18446744073709551616 + IntKind.u64.wrap (wHi z) + (SS % 18446744073709551616 + wLo z + 0) / 18446744073709551616) / 18446744073709551616)) = (SS + z) / 18446744073709551616 / 18446744073709551616 := by
      rw [sh63 _ (wid_hi hz), ← e3]
      generalize (SS / 18446744073709551616 % 18446744073709551616 + IntKind.u64.wrap (wHi z) + (SS % 18446744073709551616 + wLo z + 0) / 18446744073709551616) / 18446744073709551616 = c at *
      by_cases h9 : wHi z < 0
      · rw [if_pos h9, i64_wrap c (by omega) (by omega), i64_wrap (_ + -1) (by omega) (by omega), i64_wrap _ (by omega) (by omega)]
      · rw [if_neg h9, i64_wrap c (by omega) (by omega), i64_wrap (_ + 0) (by omega) (by omega), i64_wrap _ (by omega) (by omega)]
    refine Round.mk (i + 1, .box [.d (.v (.int .i64 (wHi z))), .d (.v (.int .u64 (wLo z)))], .one (.v (.int .u64 ((SS / 18446744073709551616 % 18446744073709551616 + IntKind.u64.wrap (wHi z) + (SS % 18446744073709551616 + wLo z + 0) / 18446744073709551616) / 18446744073709551616)))) (by show i + 1 ≤ _; omega) (by show l.length - (i + 1) < l.length - i; omega) ?_
    simp only [S.shut, i64_wrap ((i : Int) + 1) (by omega) (by omega), hs, e1, e2, e5]
    rfl
  · have hi : i = l.length := by omega
    have hsum : sumI l i = l.sum := by rw [hi, sumI, List.take_length]
    rw [hsum] at *
    generalize l.sum = SS at *
    rw [i64_mod]
    obtain ⟨k, hk, k1, k2⟩ := i64_char (SS / 18446744073709551616)
    rw [sh63 _ ⟨k1, k2⟩]
    generalize IntKind.i64.wrap (SS / 18446744073709551616) = y at *
    have key : (SS / 18446744073709551616 / 18446744073709551616 = if y < 0 then -1 else 0) ↔ Wid SS := by
      simp only [Wid]
      by_cases hy : y < 0
      · rw [if_pos hy]; omega
      · rw [if_neg hy]; omega
    refine ⟨fun h1 => ?_, fun h1 => ?_⟩
    · rw [wAns_no (fun e => h1 (key.2 e))]
      rfl
    · have hw := key.1 h1
      rw [wAns_yes hw]
      have : y = wHi SS := by simp only [Wid, wHi] at *; omega
      rw [this]
      rfl
theorem len_digs (z : Int) (k : Nat) (h : z.natAbs < BB ^ k) : (digs z.natAbs).length ≤ k := (digs_len _ _).2 h
theorem digs_rows (ds : List Nat) (n : Nat) : rowsU ds = rowsU ds := rfl
theorem rwide_spec (z : Int) (h : Wid z) : FSpec Try.prog 101 [(true, wD z)] [.agg (bigDs z)] := by
  refine fspec_of aDraw (aDraw_ok mixed) Try.func101 rfl (by decide) [0, 1, 2, 3] (rs := [.cell 2 76]) rfl (by decide) (n := 16) rfl (by simp) ?_
  have hl := wLo_lt z
  have hh := wid_hi h
  have hm := made_spec false [0, 0, 1] (by simp [BB]) (by simp)
  have lh : (digs (wHi z).natAbs).length ≤ 2 := len_digs _ 2 (by simp only [I64] at hh; simp only [BB]; omega)
  have lM : (digs (18446744073709551616 : Int).natAbs).length ≤ 3 := len_digs _ 3 (by simp only [BB]; omega)
  have e3 : sgn false (valU [0, 0, 1]) = 18446744073709551616 := by simp [sgn, valU, BB]
  rw [e3] at hm
  simp (maxSteps := 2000000) only [go_sem, p_kSeq, ↓reduceIte, reduceCtorEq, Nat.reduceLT, Nat.reduceLeDiff, Nat.reduceEqDiff, Nat.reduceMul, Nat.reduceAdd, Nat.reduceSub, Int.reduceLE, Int.reduceLT, wD]
  refine aCall_of (whole_spec (wHi z) hh.1 hh.2) ?_
  simp (maxSteps := 2000000) only [go_sem, p_kSeq, ↓reduceIte, reduceCtorEq, Nat.reduceLT, Nat.reduceLeDiff, Nat.reduceEqDiff, Nat.reduceMul, Nat.reduceAdd, Nat.reduceSub, Int.reduceLE, Int.reduceLT]
  refine aCall_of hm ?_
  simp (maxSteps := 2000000) only [go_sem, p_kSeq, ↓reduceIte, reduceCtorEq, Nat.reduceLT, Nat.reduceLeDiff, Nat.reduceEqDiff, Nat.reduceMul, Nat.reduceAdd, Nat.reduceSub, Int.reduceLE, Int.reduceLT]
  refine aCall_of (times_spec (wHi z) 18446744073709551616 (by omega) (by omega)) ?_
  simp (maxSteps := 2000000) only [go_sem, p_kSeq, ↓reduceIte, reduceCtorEq, Nat.reduceLT, Nat.reduceLeDiff, Nat.reduceEqDiff, Nat.reduceMul, Nat.reduceAdd, Nat.reduceSub, Int.reduceLE, Int.reduceLT]
  have hs := size_spec (wLo z).toNat (by omega)
  rw [Int.toNat_of_nonneg hl.1] at hs
  refine aCall_of hs ?_
  simp (maxSteps := 2000000) only [go_sem, p_kSeq, ↓reduceIte, reduceCtorEq, Nat.reduceLT, Nat.reduceLeDiff, Nat.reduceEqDiff, Nat.reduceMul, Nat.reduceAdd, Nat.reduceSub, Int.reduceLE, Int.reduceLT]
  have lL : (digs (wLo z).toNat).length ≤ 2 := (digs_len _ 2).2 (by simp only [BB]; omega)
  have hm2 := made_spec false (digs (wLo z).toNat) (digs_lt _) (by omega)
  rw [val_digs, show sgn false (wLo z).toNat = wLo z by simp only [sgn]; simp; omega] at hm2
  refine aCall_of hm2 ?_
  simp (maxSteps := 2000000) only [go_sem, p_kSeq, ↓reduceIte, reduceCtorEq, Nat.reduceLT, Nat.reduceLeDiff, Nat.reduceEqDiff, Nat.reduceMul, Nat.reduceAdd, Nat.reduceSub, Int.reduceLE, Int.reduceLT]
  have lP : (digs (wHi z * 18446744073709551616).natAbs).length ≤ 4 := len_digs _ 4 (by simp only [I64] at hh; simp only [BB]; omega)
  have lQ : (digs (wLo z).natAbs).length ≤ 2 := len_digs _ 2 (by simp only [BB]; omega)
  have hp := plus_spec (wHi z * 18446744073709551616) (wLo z) (by omega) (by omega)
  rw [show wHi z * 18446744073709551616 + wLo z = z by simp only [wHi, wLo]; omega] at hp
  refine aCall_of hp ?_
  simp (maxSteps := 2000000) only [go_sem, p_kSeq, ↓reduceIte, reduceCtorEq, Nat.reduceLT, Nat.reduceLeDiff, Nat.reduceEqDiff, Nat.reduceMul, Nat.reduceAdd, Nat.reduceSub, Int.reduceLE, Int.reduceLT]
  kernel_rfl
theorem rsized_spec (z : Int) (hl : (digs z.natAbs).length < 2 ^ 40) : FSpec Try.prog 130 [(true, bigDs z)] [.agg (bigDs (z.natAbs : Int))] := by
  refine fspec_of aDraw (aDraw_ok mixed) Try.func130 rfl (by decide) [0, 1, 2] (rs := [.cell 2 76]) rfl (by decide) (n := 6) rfl (by simp) ?_
  simp (maxSteps := 2000000) only [go_sem, p_kSeq, ↓reduceIte, reduceCtorEq, Nat.reduceLT, Nat.reduceLeDiff, Nat.reduceEqDiff, Nat.reduceMul, Nat.reduceAdd, Nat.reduceSub, Int.reduceLE, Int.reduceLT]
  have hm := made_spec false (digs z.natAbs) (digs_lt _) (by omega)
  rw [val_digs, show sgn false z.natAbs = (z.natAbs : Int) by simp [sgn]] at hm
  refine aCall_of hm ?_
  simp (maxSteps := 2000000) only [go_sem, p_kSeq, ↓reduceIte, reduceCtorEq, Nat.reduceLT, Nat.reduceLeDiff, Nat.reduceEqDiff, Nat.reduceMul, Nat.reduceAdd, Nat.reduceSub, Int.reduceLE, Int.reduceLT]
theorem rsign_spec (z : Int) (hl : (digs z.natAbs).length < 2 ^ 40) : FSpec Try.prog 69 [(true, bigDs z)] [.one (.d (.v (.int .i64 (cmpI z 0))))] := by
  refine fspec_of aDraw (aDraw_ok mixed) Try.func69 rfl (by decide) [0, 1, 2] (rs := [.tmp 2]) rfl (by decide) (n := 9) rfl (by simp) ?_
  simp (maxSteps := 2000000) only [go_sem, p_kSeq, ↓reduceIte, reduceCtorEq, Nat.reduceLT, Nat.reduceLeDiff, Nat.reduceEqDiff, Nat.reduceMul, Nat.reduceAdd, Nat.reduceSub, Int.reduceLE, Int.reduceLT]
  have k0 : (digs z.natAbs).length ≤ 0 ↔ z.natAbs < BB ^ 0 := digs_len _ _
  simp only [Nat.pow_zero] at k0
  refine ⟨fun h => ?_, fun h => ⟨fun h1 => ?_, fun h1 => ?_⟩⟩
  · have : z = 0 := by omega
    subst this; rfl
  · rw [cmpI, if_pos h1]
  · rw [cmpI, if_neg h1, if_neg (by omega)]
theorem rcmp_spec (a b : Int) (ha : (digs a.natAbs).length < 2 ^ 39) (hb : (digs b.natAbs).length < 2 ^ 39) (hd : (digs (a - b).natAbs).length < 2 ^ 40) : FSpec Try.prog 100 [(true, bigDs a), (true, bigDs b)] [.one (.d (.v (.int .i64 (cmpI a b))))] := by
  refine fspec_of aDraw (aDraw_ok mixed) Try.func100 rfl (by decide) [0, 1, 2, 3, 4] (rs := [.tmp 4]) rfl (by decide) (n := 9) rfl (by simp) ?_
  simp (maxSteps := 2000000) only [go_sem, p_kSeq, ↓reduceIte, reduceCtorEq, Nat.reduceLT, Nat.reduceLeDiff, Nat.reduceEqDiff, Nat.reduceMul, Nat.reduceAdd, Nat.reduceSub, Int.reduceLE, Int.reduceLT]
  refine aCall_of (less_spec a b ha hb) ?_
  simp (maxSteps := 2000000) only [go_sem, p_kSeq, ↓reduceIte, reduceCtorEq, Nat.reduceLT, Nat.reduceLeDiff, Nat.reduceEqDiff, Nat.reduceMul, Nat.reduceAdd, Nat.reduceSub, Int.reduceLE, Int.reduceLT]
  refine aCall_of (rsign_spec (a - b) hd) ?_
  simp (maxSteps := 2000000) only [go_sem, p_kSeq, ↓reduceIte, reduceCtorEq, Nat.reduceLT, Nat.reduceLeDiff, Nat.reduceEqDiff, Nat.reduceMul, Nat.reduceAdd, Nat.reduceSub, Int.reduceLE, Int.reduceLT]
  have : cmpI (a - b) 0 = cmpI a b := by
    unfold cmpI
    split <;> split <;> (try split) <;> (try split) <;> omega
  rw [this]
end Go.Ax
