/- A part of the proof: Sa5. -/
import Derived.Test.YtmpbhgofllbejaaSa4
set_option linter.unusedVariables false
set_option linter.unusedSimpArgs false
set_option linter.unusedSimpArgs false
set_option linter.unusedVariables false
namespace Go.Ax
open Go Go.Proofs
set_option maxRecDepth 100000
theorem len_add (a b : Nat) (k : Nat) (ha : (digs a).length ≤ k) (hb : (digs b).length ≤ k) : (digs (a + b)).length ≤ k + 1 := by
  rw [digs_len] at *
  rw [Nat.pow_succ]
  have : 2 * BB ^ k ≤ BB ^ k * BB := by rw [Nat.mul_comm]; exact Nat.mul_le_mul_left _ (by decide)
  omega
theorem dg_cons (n v : Nat) : dg (n + 1) v = v % BB :: dg n (v / BB) := by
  refine ext_get (by rw [dg_len, List.length_cons, dg_len]) fun i hi => ?_
  rw [dg_len] at hi
  rw [dg_get hi]
  cases i with
  | zero => rw [Nat.pow_zero, Nat.div_one]; rfl
  | succ i =>
    rw [List.getElem?_cons_succ, dg_get (by omega), Nat.pow_succ, Nat.mul_comm, Nat.div_div_eq_div_mul]
theorem valU_dg {n v : Nat} (h : v < BB ^ n) : valU (dg n v) = v := by
  induction n generalizing v with
  | zero =>
    rw [Nat.pow_zero] at h
    have : v = 0 := by omega
    subst this; rfl
  | succ n ih =>
    have h2 : v / BB < BB ^ n := (Nat.div_lt_iff_lt_mul BB_pos).2 (by rw [← Nat.pow_succ]; exact h)
    rw [dg_cons, valU, ih h2]
    exact Nat.mod_add_div v BB
theorem plus_spec (a b : Int) (ha : (digs a.natAbs).length < 2 ^ 39) (hb : (digs b.natAbs).length < 2 ^ 39) : FSpec Try.prog 75 [(true, bigDs a), (true, bigDs b)] [.agg (bigDs (a + b))] := by
  refine fspec_of aDraw (aDraw_ok mixed) Try.func75 rfl (by decide) [0, 1, 2, 3, 4] (rs := [.cell 4 76]) rfl (by decide) (n := 40) rfl (by simp) ?_
  simp (maxSteps := 2000000) only [go_sem, p_kSeq, ↓reduceIte, reduceCtorEq, Nat.reduceLT, Nat.reduceLeDiff, Nat.reduceEqDiff, Nat.reduceMul, Nat.reduceAdd, Nat.reduceSub, Int.reduceLE, Int.reduceLT]
  refine ⟨fun h => ?_, fun h => ?_⟩
  · have hs := addSizes_spec a.natAbs b.natAbs (by omega) (by omega)
    have hl := len_add a.natAbs b.natAbs (2 ^ 39) (by omega) (by omega)
    have hm := made_spec (decide (a < 0)) (digs (a.natAbs + b.natAbs)) (digs_lt _) (by omega)
    have hx : sgn (decide (a < 0)) (valU (digs (a.natAbs + b.natAbs))) = a + b := by
      rw [val_digs]; unfold sgn
      by_cases h1 : a < 0 <;> by_cases h2 : b < 0 <;> simp_all <;> omega
    rw [hx] at hm
    refine aCall_of hs ?_
    simp (maxSteps := 2000000) only [go_sem, p_kSeq, ↓reduceIte, reduceCtorEq, Nat.reduceLT, Nat.reduceLeDiff, Nat.reduceEqDiff, Nat.reduceMul, Nat.reduceAdd, Nat.reduceSub, Int.reduceLE, Int.reduceLT]
    refine aCall_of hm ?_
    simp (maxSteps := 2000000) only [go_sem, p_kSeq, ↓reduceIte, reduceCtorEq, Nat.reduceLT, Nat.reduceLeDiff, Nat.reduceEqDiff, Nat.reduceMul, Nat.reduceAdd, Nat.reduceSub, Int.reduceLE, Int.reduceLT]
    kernel_rfl
  · refine aCall_of (cmpSizes_spec a.natAbs b.natAbs (by omega) (by omega)) ?_
    simp (maxSteps := 2000000) only [go_sem, p_kSeq, ↓reduceIte, reduceCtorEq, Nat.reduceLT, Nat.reduceLeDiff, Nat.reduceEqDiff, Nat.reduceMul, Nat.reduceAdd, Nat.reduceSub, Int.reduceLE, Int.reduceLT]
    have case1 : ∀ (neg : Bool) (x y : Nat) (z : Int), (digs x).length < 2 ^ 39 → (digs y).length < 2 ^ 39 → y ≤ x → sgn neg (x - y) = z → FSpec Try.prog 121 [(false, [.l (rowsU (digs x))]), (false, [.l (rowsU (digs y))])]
        [.one (.d (.l (rowsU (dg (digs x).length (x - y)))))] ∧ FSpec Try.prog 116 [(false, [.v (.bool neg)]), (false, [.l (rowsU (dg (digs x).length (x - y)))])] [.agg (bigDs z)] := by
      intro neg x y z hx hy hxy hz
      have h1 := subSizes_spec (x - y) y (by rw [Nat.sub_add_cancel hxy]; omega) (by omega)
      rw [Nat.sub_add_cancel hxy] at h1
      refine ⟨h1, ?_⟩
      have h2 := made_spec neg (dg (digs x).length (x - y)) (dg_lt _ _) (by rw [dg_len]; omega)
      rw [valU_dg (by have := (digs_len x (digs x).length).1 (Nat.le_refl _); omega), hz] at h2
      exact h2
    refine ⟨fun h1 => ?_, fun h1 => ?_⟩
    · have hle : b.natAbs ≤ a.natAbs := by
        rcases Nat.lt_or_ge a.natAbs b.natAbs with h2 | h2
        · rw [if_pos h2] at h1; omega
        · exact h2
      obtain ⟨c1, c2⟩ := case1 (decide (a < 0)) a.natAbs b.natAbs (a + b) ha hb hle (by
        unfold sgn
        by_cases h1 : a < 0 <;> by_cases h2 : b < 0 <;> simp_all <;> omega)
      refine aCall_of c1 ?_
      simp (maxSteps := 2000000) only [go_sem, p_kSeq, ↓reduceIte, reduceCtorEq, Nat.reduceLT, Nat.reduceLeDiff, Nat.reduceEqDiff, Nat.reduceMul, Nat.reduceAdd, Nat.reduceSub, Int.reduceLE, Int.reduceLT]
      refine aCall_of c2 ?_
      simp (maxSteps := 2000000) only [go_sem, p_kSeq, ↓reduceIte, reduceCtorEq, Nat.reduceLT, Nat.reduceLeDiff, Nat.reduceEqDiff, Nat.reduceMul, Nat.reduceAdd, Nat.reduceSub, Int.reduceLE, Int.reduceLT]
      kernel_rfl
    · have hle : a.natAbs ≤ b.natAbs := by
        rcases Nat.lt_or_ge a.natAbs b.natAbs with h2 | h2
        · omega
        · rw [if_neg (by omega)] at h1; split at h1 <;> omega
      obtain ⟨c1, c2⟩ := case1 (decide (b < 0)) b.natAbs a.natAbs (a + b) hb ha hle (by
        unfold sgn
        by_cases h1 : a < 0 <;> by_cases h2 : b < 0 <;> simp_all <;> omega)
      refine aCall_of c1 ?_
      simp (maxSteps := 2000000) only [go_sem, p_kSeq, ↓reduceIte, reduceCtorEq, Nat.reduceLT, Nat.reduceLeDiff, Nat.reduceEqDiff, Nat.reduceMul, Nat.reduceAdd, Nat.reduceSub, Int.reduceLE, Int.reduceLT]
      refine aCall_of c2 ?_
      simp (maxSteps := 2000000) only [go_sem, p_kSeq, ↓reduceIte, reduceCtorEq, Nat.reduceLT, Nat.reduceLeDiff, Nat.reduceEqDiff, Nat.reduceMul, Nat.reduceAdd, Nat.reduceSub, Int.reduceLE, Int.reduceLT]
      kernel_rfl
theorem less_spec (a b : Int) (ha : (digs a.natAbs).length < 2 ^ 39) (hb : (digs b.natAbs).length < 2 ^ 39) : FSpec Try.prog 67 [(true, bigDs a), (true, bigDs b)] [.agg (bigDs (a - b))] := by
  refine fspec_of aDraw (aDraw_ok mixed) Try.func67 rfl (by decide) [0, 1, 2, 3, 4] (rs := [.cell 4 76]) rfl (by decide) (n := 9) rfl (by simp) ?_
  simp (maxSteps := 2000000) only [go_sem, p_kSeq, ↓reduceIte, reduceCtorEq, Nat.reduceLT, Nat.reduceLeDiff, Nat.reduceEqDiff, Nat.reduceMul, Nat.reduceAdd, Nat.reduceSub, Int.reduceLE, Int.reduceLT]
  refine aCall_of (turned_spec b (by omega)) ?_
  simp (maxSteps := 2000000) only [go_sem, p_kSeq, ↓reduceIte, reduceCtorEq, Nat.reduceLT, Nat.reduceLeDiff, Nat.reduceEqDiff, Nat.reduceMul, Nat.reduceAdd, Nat.reduceSub, Int.reduceLE, Int.reduceLT]
  have h := plus_spec a (-b) ha (by rw [Int.natAbs_neg]; exact hb)
  refine aCall_of h ?_
  simp (maxSteps := 2000000) only [go_sem, p_kSeq, ↓reduceIte, reduceCtorEq, Nat.reduceLT, Nat.reduceLeDiff, Nat.reduceEqDiff, Nat.reduceMul, Nat.reduceAdd, Nat.reduceSub, Int.reduceLE, Int.reduceLT]
  refine ⟨by kernel_rfl, ?_⟩
  rw [← Int.sub_eq_add_neg]
end Go.Ax
