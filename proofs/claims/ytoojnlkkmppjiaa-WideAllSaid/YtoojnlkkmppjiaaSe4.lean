/- WideSums, WideDivides, WideBack tell true. -/
import Derived.Test.YtoojnlkkmppjiaaSe3
set_option linter.unusedVariables false
set_option linter.unusedSimpArgs false
set_option linter.unusedSimpArgs false
set_option linter.unusedVariables false
namespace Go.Ax
open Go Go.Proofs
set_option maxRecDepth 100000
set_option maxHeartbeats 4000000
theorem B4 : BB ^ 4 = 340282366920938463463374607431768211456 := by decide
theorem B5 : BB ^ 5 = 1461501637330902918203684832716283019655932542976 := by decide
theorem wideSums_spec (l : List Int) (hl : ∀ x ∈ l, Wid x) (hn0 : l.length < 2 ^ 44) : FSpec Try.prog 8 [(false, [.l (rowsW l)])] yes := by
  refine fspec_of aDraw (aDraw_ok mixed) Try.func8 rfl (by decide) [0, 2, 3, 4, 5, 6] (rs := [.tmp 2]) rfl (by decide) (n := 34) rfl (by simp) ?_
  simp only [go_sem, ↓reduceIte, reduceCtorEq, Nat.reduceLT, Nat.reduceLeDiff, Nat.reduceEqDiff, Nat.reduceMul, Nat.reduceAdd, Nat.reduceSub, Int.reduceLE, Int.reduceLT]
  refine aCall_of wknown_spec ?_
  simp only [go_sem, ↓reduceIte, reduceCtorEq, Nat.reduceLT, Nat.reduceLeDiff, Nat.reduceEqDiff, Nat.reduceMul, Nat.reduceAdd, Nat.reduceSub, Int.reduceLE, Int.reduceLT, yes]
  refine fun h => ?_
  have hn20 : l.length ≤ 60 := by omega
  rw [aCode_loop]
  refine aLoop_of (α := Nat × Bool) (fun p => ⟨34, [], [(0, .one (.l (rowsW l))), (2, .one (.v (.bool false))), (3, .box (bx p.2 (sumI l p.1))), (4, .one (.v (.int .i64 p.1))), (5, .none), (6, .none)]⟩)
    (fun p => p.1 ≤ l.length ∧ (p.2 = true → p.1 = 0)) (fun p => l.length - p.1) (0, true) ⟨Nat.zero_le _, fun _ => rfl⟩ rfl (fun ⟨i, first⟩ ⟨g1, g2⟩ => ?_)
  simp only at g1 g2
  have hb := sumW_bound hl i g1
  have hzero : [D.v (.bool false), D.l []] = bigDs 0 := by simp [bigDs, digs_zero, rowsU]
  cases first
  · simp only [go_sem, ↓reduceIte, reduceCtorEq, Nat.reduceLT, Nat.reduceLeDiff, Nat.reduceEqDiff, Nat.reduceMul, Nat.reduceAdd, Nat.reduceSub, Int.reduceLE, Int.reduceLT, bx]
    refine ⟨fun h => ?_, fun h => ?_⟩
    · have hz := hl (l[i]?.getD 0) (by rw [List.getElem?_eq_getElem (by omega)]; exact List.getElem_mem _)
      have hs := sumI_succ (l := l) (n := i) (by omega)
      rw [Int.toNat_natCast]
      refine ⟨by omega, h, ?_⟩
      refine aCall_of (rwide_spec _ hz) ?_
      simp only [go_sem, ↓reduceIte, reduceCtorEq, Nat.reduceLT, Nat.reduceLeDiff, Nat.reduceEqDiff, Nat.reduceMul, Nat.reduceAdd, Nat.reduceSub, Int.reduceLE, Int.reduceLT]
      have l1 : (digs ((sumI l i) : Int).natAbs).length ≤ 5 := len_digs _ 5 (by rw [B5]; omega)
      have l2 : (digs (l[i]?.getD 0).natAbs).length ≤ 5 := len_digs _ 5 (by rw [B5]; simp only [Wid] at hz; omega)
      have hp := plus_spec (sumI l i) (l[i]?.getD 0) (by omega) (by omega)
      skip
      refine aCall_of hp ?_
      simp only [go_sem, ↓reduceIte, reduceCtorEq, Nat.reduceLT, Nat.reduceLeDiff, Nat.reduceEqDiff, Nat.reduceMul, Nat.reduceAdd, Nat.reduceSub, Int.reduceLE, Int.reduceLT]
      refine ⟨by kernel_rfl, Round.mk (i + 1, false) ⟨by show i + 1 ≤ _; omega, fun h => by cases h⟩ (by show l.length - (i + 1) < l.length - i; omega) ?_⟩
      simp only [S.shut, i64_wrap (((i : Nat) : Int) + 1) (by omega) (by omega), hs, bx]
      rfl
    · refine aCall_of (wsum_spec l hl (by omega)) ?_
      simp only [go_sem, ↓reduceIte, reduceCtorEq, Nat.reduceLT, Nat.reduceLeDiff, Nat.reduceEqDiff, Nat.reduceMul, Nat.reduceAdd, Nat.reduceSub, Int.reduceLE, Int.reduceLT, wAns, wD]
      have hsum : sumI l i = l.sum := by rw [show i = l.length by omega, sumI, List.take_length]
      rw [hsum] at hb ⊢
      have ht := wtold_true l.sum 5 (by omega) (by omega) (by rw [B5]; omega)
      skip
      refine aCall_of ht ?_
      simp only [go_sem, ↓reduceIte, reduceCtorEq, Nat.reduceLT, Nat.reduceLeDiff, Nat.reduceEqDiff, Nat.reduceMul, Nat.reduceAdd, Nat.reduceSub, Int.reduceLE, Int.reduceLT, yes]
  · have := g2 rfl
    subst this
    simp only [go_sem, ↓reduceIte, reduceCtorEq, Nat.reduceLT, Nat.reduceLeDiff, Nat.reduceEqDiff, Nat.reduceMul, Nat.reduceAdd, Nat.reduceSub, Int.reduceLE, Int.reduceLT, bx]
    refine ⟨fun h => ?_, fun h => ?_⟩
    · have hz := hl (l[0]?.getD 0) (by rw [List.getElem?_eq_getElem (by omega)]; exact List.getElem_mem _)
      have hs := sumI_succ (l := l) (n := 0) (by omega)
      simp only [Int.toNat_zero, Int.natCast_zero, Int.ofNat_zero]
      refine ⟨by omega, h, ?_⟩
      refine aCall_of (rwide_spec _ hz) ?_
      simp only [go_sem, ↓reduceIte, reduceCtorEq, Nat.reduceLT, Nat.reduceLeDiff, Nat.reduceEqDiff, Nat.reduceMul, Nat.reduceAdd, Nat.reduceSub, Int.reduceLE, Int.reduceLT]
      have l1 : (digs (0 : Int).natAbs).length ≤ 5 := len_digs _ 5 (by rw [B5]; omega)
      have l2 : (digs (l[0]?.getD 0).natAbs).length ≤ 5 := len_digs _ 5 (by rw [B5]; simp only [Wid] at hz; omega)
      have hp := plus_spec 0 (l[0]?.getD 0) (by omega) (by omega)
      rw [← hzero] at hp
      refine aCall_of hp ?_
      simp only [go_sem, ↓reduceIte, reduceCtorEq, Nat.reduceLT, Nat.reduceLeDiff, Nat.reduceEqDiff, Nat.reduceMul, Nat.reduceAdd, Nat.reduceSub, Int.reduceLE, Int.reduceLT]
      refine ⟨by kernel_rfl, Round.mk (0 + 1, false) ⟨by show 0 + 1 ≤ _; omega, fun h => by cases h⟩ (by show l.length - (0 + 1) < l.length - 0; omega) ?_⟩
      simp only [S.shut, i64_wrap (((0 : Nat) : Int) + 1) (by omega) (by omega), hs, bx, show sumI l 0 = 0 from rfl]
      rfl
    · refine aCall_of (wsum_spec l hl (by omega)) ?_
      simp only [go_sem, ↓reduceIte, reduceCtorEq, Nat.reduceLT, Nat.reduceLeDiff, Nat.reduceEqDiff, Nat.reduceMul, Nat.reduceAdd, Nat.reduceSub, Int.reduceLE, Int.reduceLT, wAns, wD]
      have hl0 : l = [] := List.eq_nil_of_length_eq_zero (by omega)
      subst hl0
      have ht := wtold_true 0 5 (by omega) (by omega) (by rw [B5]; omega)
      rw [← hzero] at ht
      refine aCall_of ht ?_
      simp only [go_sem, ↓reduceIte, reduceCtorEq, Nat.reduceLT, Nat.reduceLeDiff, Nat.reduceEqDiff, Nat.reduceMul, Nat.reduceAdd, Nat.reduceSub, Int.reduceLE, Int.reduceLT, yes]
theorem wideDivides_spec (w d : Int) (hw : Wid w) (hd : I64 d) : FSpec Try.prog 9 [(true, wD w), (false, [.v (.int .i64 d)])] yes := by
  refine fspec_of aDraw (aDraw_ok mixed) Try.func9 rfl (by decide) [0, 1, 2, 4, 5, 6, 7, 8, 9] (rs := [.tmp 4]) rfl (by decide) (n := 53) rfl (by simp) ?_
  have hdiv := wdiv_spec w d hw hd
  simp only [go_sem, ↓reduceIte, reduceCtorEq, Nat.reduceLT, Nat.reduceLeDiff, Nat.reduceEqDiff, Nat.reduceMul, Nat.reduceAdd, Nat.reduceSub, Int.reduceLE, Int.reduceLT, wD]
  refine aCall_of wknown_spec ?_
  simp only [go_sem, ↓reduceIte, reduceCtorEq, Nat.reduceLT, Nat.reduceLeDiff, Nat.reduceEqDiff, Nat.reduceMul, Nat.reduceAdd, Nat.reduceSub, Int.reduceLE, Int.reduceLT, yes]
  by_cases h1 : d < 1
  · rw [divAns, if_pos h1] at hdiv
    refine aCall_of hdiv ?_
    simp only [go_sem, ↓reduceIte, reduceCtorEq, Nat.reduceLT, Nat.reduceLeDiff, Nat.reduceEqDiff, Nat.reduceMul, Nat.reduceAdd, Nat.reduceSub, Int.reduceLE, Int.reduceLT, wD, h1, if_true]
    exact ⟨fun _ => rfl, fun h => absurd h (by decide)⟩
  · have q1 : (w / d).natAbs < BB ^ 5 ∧ Wid (w / d) := by
      have e := Int.mul_ediv_add_emod w d
      have r1 := Int.emod_nonneg w (by omega : d ≠ 0)
      have r2 := Int.emod_lt_of_pos w (by omega : 0 < d)
      have u1 : w / d < 170141183460469231731687303715884105728 := Int.ediv_lt_of_lt_mul (by omega) (by simp only [Wid] at hw; omega)
      have u2 : -170141183460469231731687303715884105728 ≤ w / d := Int.le_ediv_of_mul_le (by omega) (by simp only [Wid] at hw; omega)
      rw [B5]
      simp only [Wid]
      omega
    have r1 := Int.emod_nonneg w (by omega : d ≠ 0)
    have r2 := Int.emod_lt_of_pos w (by omega : 0 < d)
    have dd : I64 (w % d) := by simp only [I64] at hd ⊢; omega
    have hov := over_spec w d (by omega) 5 (by omega) (by rw [B5]; simp only [Wid] at hw; omega) (by rw [B5]; simp only [I64] at hd; omega)
    have hlr : (digs (w % d).natAbs).length ≤ 5 := len_digs _ 5 (by rw [B5]; simp only [I64] at dd; omega)
    have hcm := rcmp_spec (w % d) (w % d) (by omega) (by omega) (by rw [Int.sub_self]; simp [digs_zero])
    rw [cmpI_self] at hcm
    have hhw := hwide_spec (w / d) (w / d) q1.2 5 (by omega) (by omega) q1.1
    rw [decide_eq_true rfl] at hhw
    rw [divAns, if_neg h1] at hdiv
    refine aCall_of hdiv ?_
    simp only [go_sem, ↓reduceIte, reduceCtorEq, Nat.reduceLT, Nat.reduceLeDiff, Nat.reduceEqDiff, Nat.reduceMul, Nat.reduceAdd, Nat.reduceSub, Int.reduceLE, Int.reduceLT, wD, h1, if_false]
    refine aCall_of (rwide_spec w hw) ?_
    simp only [go_sem, ↓reduceIte, reduceCtorEq, Nat.reduceLT, Nat.reduceLeDiff, Nat.reduceEqDiff, Nat.reduceMul, Nat.reduceAdd, Nat.reduceSub, Int.reduceLE, Int.reduceLT]
    refine aCall_of (whole_spec d hd.1 hd.2) ?_
    simp only [go_sem, ↓reduceIte, reduceCtorEq, Nat.reduceLT, Nat.reduceLeDiff, Nat.reduceEqDiff, Nat.reduceMul, Nat.reduceAdd, Nat.reduceSub, Int.reduceLE, Int.reduceLT]
    refine aCall_of hov ?_
    simp only [go_sem, ↓reduceIte, reduceCtorEq, Nat.reduceLT, Nat.reduceLeDiff, Nat.reduceEqDiff, Nat.reduceMul, Nat.reduceAdd, Nat.reduceSub, Int.reduceLE, Int.reduceLT]
    refine aCall_of hhw ?_
    simp only [go_sem, ↓reduceIte, reduceCtorEq, Nat.reduceLT, Nat.reduceLeDiff, Nat.reduceEqDiff, Nat.reduceMul, Nat.reduceAdd, Nat.reduceSub, Int.reduceLE, Int.reduceLT]
    refine aCall_of (whole_spec (w % d) dd.1 dd.2) ?_
    simp only [go_sem, ↓reduceIte, reduceCtorEq, Nat.reduceLT, Nat.reduceLeDiff, Nat.reduceEqDiff, Nat.reduceMul, Nat.reduceAdd, Nat.reduceSub, Int.reduceLE, Int.reduceLT]
    refine aCall_of hcm ?_
    simp only [go_sem, ↓reduceIte, reduceCtorEq, Nat.reduceLT, Nat.reduceLeDiff, Nat.reduceEqDiff, Nat.reduceMul, Nat.reduceAdd, Nat.reduceSub, Int.reduceLE, Int.reduceLT, beq_self_eq_true]
    show _ = true
    kernel_rfl
theorem wideBack_spec (w d : Int) (hw : Wid w) (hd : I64 d) : FSpec Try.prog 10 [(true, wD w), (false, [.v (.int .i64 d)])] yes := by
  refine fspec_of aDraw (aDraw_ok mixed) Try.func10 rfl (by decide) [0, 1, 2, 4, 5, 6, 7, 8, 9, 10, 11] (rs := [.tmp 4]) rfl (by decide) (n := 69) rfl (by simp) ?_
  have hdiv := wdiv_spec w d hw hd
  simp only [go_sem, ↓reduceIte, reduceCtorEq, Nat.reduceLT, Nat.reduceLeDiff, Nat.reduceEqDiff, Nat.reduceMul, Nat.reduceAdd, Nat.reduceSub, Int.reduceLE, Int.reduceLT, wD]
  refine aCall_of wknown_spec ?_
  simp only [go_sem, ↓reduceIte, reduceCtorEq, Nat.reduceLT, Nat.reduceLeDiff, Nat.reduceEqDiff, Nat.reduceMul, Nat.reduceAdd, Nat.reduceSub, Int.reduceLE, Int.reduceLT, yes]
  by_cases h1 : d < 1
  · rw [divAns, if_pos h1] at hdiv
    refine aCall_of hdiv ?_
    simp only [go_sem, ↓reduceIte, reduceCtorEq, Nat.reduceLT, Nat.reduceLeDiff, Nat.reduceEqDiff, Nat.reduceMul, Nat.reduceAdd, Nat.reduceSub, Int.reduceLE, Int.reduceLT, wD, h1, decide_true]
  · rw [divAns, if_neg h1] at hdiv
    have e := Int.mul_ediv_add_emod w d
    have r1 := Int.emod_nonneg w (by omega : d ≠ 0)
    have r2 := Int.emod_lt_of_pos w (by omega : 0 < d)
    have u1 : w / d < 170141183460469231731687303715884105728 := Int.ediv_lt_of_lt_mul (by omega) (by simp only [Wid] at hw; omega)
    have u2 : -170141183460469231731687303715884105728 ≤ w / d := Int.le_ediv_of_mul_le (by omega) (by simp only [Wid] at hw; omega)
    have hq : Wid (w / d) := ⟨u2, u1⟩
    have hr : I64 (w % d) := by simp only [I64] at hd ⊢; omega
    have ht := wtimes_spec (w / d) d hq hd
    have wr : Wid (w % d) := by simp only [I64, Wid] at *; omega
    rw [Int.mul_comm] at e
    generalize hp : w / d * d = p at *
    have wf : Wid (wfitV p) := by unfold wfitV; split
                                  · assumption
                                  · simp [Wid]
    have ha := wadd_spec (wfitV p) (w % d) wf wr
    have pos : 0 ≤ w → Wid p := fun h => by
      have q0 := Int.ediv_nonneg h (by omega : 0 ≤ d)
      have : 0 ≤ p := by rw [← hp]; exact Int.mul_nonneg q0 (by omega)
      simp only [Wid] at hw ⊢
      omega
    refine aCall_of hdiv ?_
    simp only [go_sem, ↓reduceIte, reduceCtorEq, Nat.reduceLT, Nat.reduceLeDiff, Nat.reduceEqDiff, Nat.reduceMul, Nat.reduceAdd, Nat.reduceSub, Int.reduceLE, Int.reduceLT, wD]
    refine aCall_of ht ?_
    simp only [go_sem, ↓reduceIte, reduceCtorEq, Nat.reduceLT, Nat.reduceLeDiff, Nat.reduceEqDiff, Nat.reduceMul, Nat.reduceAdd, Nat.reduceSub, Int.reduceLE, Int.reduceLT, wAns, wD]
    refine aCall_of (of_spec (w % d) hr) ?_
    simp only [go_sem, ↓reduceIte, reduceCtorEq, Nat.reduceLT, Nat.reduceLeDiff, Nat.reduceEqDiff, Nat.reduceMul, Nat.reduceAdd, Nat.reduceSub, Int.reduceLE, Int.reduceLT, wD]
    refine aCall_of ha ?_
    simp only [go_sem, ↓reduceIte, reduceCtorEq, Nat.reduceLT, Nat.reduceLeDiff, Nat.reduceEqDiff, Nat.reduceMul, Nat.reduceAdd, Nat.reduceSub, Int.reduceLE, Int.reduceLT, wAns, wD]
    refine ⟨by kernel_rfl, ?_⟩
    refine aCall_of (wsign_spec w) ?_
    by_cases hwp : Wid p
    · have e1 : wfitV p = p := by simp [wfitV, hwp]
      have e2 : wfit p = true := by simp [wfit, hwp]
      have e3 : wfitV (p + w % d) = w := by rw [e]; simp [wfitV, hw]
      have e4 : wfit (p + w % d) = true := by rw [e]; simp [wfit, hw]
      simp only [go_sem, ↓reduceIte, reduceCtorEq, Nat.reduceLT, Nat.reduceLeDiff, Nat.reduceEqDiff, Nat.reduceMul, Nat.reduceAdd, Nat.reduceSub, Int.reduceLE, Int.reduceLT, e1, e2, e3, e4]
      have fin : [Comp.one (.d (.v (.bool (wHi w == wHi w && wLo w == wLo w))))] = [Comp.one (.d (.v (.bool true)))] := by rw [wD_eq]; simp
      exact ⟨fun _ => ⟨fun _ => ⟨fun _ => fin, fun h => by omega⟩, fun h => by omega⟩, fun _ => ⟨fun _ => ⟨fun _ => fin, fun h => by omega⟩, fun h => by omega⟩⟩
    · have e2 : wfit p = false := by simp [wfit, hwp]
      have hneg : w < 0 := by
        rcases Int.lt_or_le w 0 with h | h
        · exact h
        · exact absurd (pos h) hwp
      have hc : cmpI w 0 = -1 := by simp [cmpI, hneg]
      simp only [go_sem, ↓reduceIte, reduceCtorEq, Nat.reduceLT, Nat.reduceLeDiff, Nat.reduceEqDiff, Nat.reduceMul, Nat.reduceAdd, Nat.reduceSub, Int.reduceLE, Int.reduceLT, e2, hc, Int.reduceNeg, Int.reduceLE, ge_iff_le, Int.reduceLT]
      exact ⟨fun _ h => by omega, fun h => by omega⟩
end Go.Ax
