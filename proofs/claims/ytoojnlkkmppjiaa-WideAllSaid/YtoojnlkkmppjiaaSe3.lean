/- WideOrders, WideRings tell true. -/
import Derived.Test.YtoojnlkkmppjiaaSe2
set_option linter.unusedVariables false
set_option linter.unusedSimpArgs false
set_option linter.unusedSimpArgs false
set_option linter.unusedVariables false
namespace Go.Ax
open Go Go.Proofs
set_option maxRecDepth 100000
theorem wideRings_spec (a b c : Int) (ha : I64 a) (hb : I64 b) (hc : I64 c) : FSpec Try.prog 12 [(false, [.v (.int .i64 a)]), (false, [.v (.int .i64 b)]), (false, [.v (.int .i64 c)])] yes := by
  refine fspec_of aDraw (aDraw_ok mixed) Try.func12 rfl (by decide) [0, 1, 2, 6, 7, 8, 9, 10, 11, 12] (rs := [.tmp 6]) rfl (by decide) (n := 59) rfl (by simp) ?_
  have wOf : ∀ x, I64 x → Wid x := fun x h => by simp only [I64, Wid] at *; omega
  have wMul : ∀ x y, I64 x → I64 y → Wid (x * y) := fun x y hx hy => by
    have key := sgnI_mul x y
    simp only [I64] at hx hy
    have hm : (x.natAbs : Int) * (y.natAbs : Int) ≤ 9223372036854775808 * 9223372036854775808 := Int.mul_le_mul (by omega) (by omega) (by omega) (by omega)
    have hm0 : 0 ≤ (x.natAbs : Int) * (y.natAbs : Int) := Int.mul_nonneg (by omega) (by omega)
    rw [← key]
    simp only [Wid, sgnI]
    split <;> omega
  have hbc : Wid (b + c) := by simp only [I64, Wid] at *; omega
  have h1 := wadd_spec b c (wOf b hb) (wOf c hc)
  rw [wAns_yes hbc] at h1
  have h2 := wtimes_spec (b + c) a hbc ha
  have h3 := wadd_spec (a * b) (c * a) (wMul a b ha hb) (wMul c a hc ha)
  have e : (b + c) * a = a * b + c * a := by rw [Int.add_mul, Int.mul_comm b a]
  rw [e] at h2
  have h4 := wmul_spec b a hb ha
  rw [Int.mul_comm b a] at h4
  simp only [go_sem, ↓reduceIte, reduceCtorEq, Nat.reduceLT, Nat.reduceLeDiff, Nat.reduceEqDiff, Nat.reduceMul, Nat.reduceAdd, Nat.reduceSub, Int.reduceLE, Int.reduceLT, wD]
  refine aCall_of wknown_spec ?_
  simp only [go_sem, ↓reduceIte, reduceCtorEq, Nat.reduceLT, Nat.reduceLeDiff, Nat.reduceEqDiff, Nat.reduceMul, Nat.reduceAdd, Nat.reduceSub, Int.reduceLE, Int.reduceLT, yes]
  refine aCall_of (of_spec b hb) ?_
  simp only [go_sem, ↓reduceIte, reduceCtorEq, Nat.reduceLT, Nat.reduceLeDiff, Nat.reduceEqDiff, Nat.reduceMul, Nat.reduceAdd, Nat.reduceSub, Int.reduceLE, Int.reduceLT, wD]
  refine aCall_of (of_spec c hc) ?_
  simp only [go_sem, ↓reduceIte, reduceCtorEq, Nat.reduceLT, Nat.reduceLeDiff, Nat.reduceEqDiff, Nat.reduceMul, Nat.reduceAdd, Nat.reduceSub, Int.reduceLE, Int.reduceLT, wD]
  refine aCall_of h1 ?_
  simp only [go_sem, ↓reduceIte, reduceCtorEq, Nat.reduceLT, Nat.reduceLeDiff, Nat.reduceEqDiff, Nat.reduceMul, Nat.reduceAdd, Nat.reduceSub, Int.reduceLE, Int.reduceLT, wD]
  refine aCall_of h2 ?_
  simp only [go_sem, ↓reduceIte, reduceCtorEq, Nat.reduceLT, Nat.reduceLeDiff, Nat.reduceEqDiff, Nat.reduceMul, Nat.reduceAdd, Nat.reduceSub, Int.reduceLE, Int.reduceLT, wAns, wD]
  refine aCall_of (wmul_spec a b ha hb) ?_
  simp only [go_sem, ↓reduceIte, reduceCtorEq, Nat.reduceLT, Nat.reduceLeDiff, Nat.reduceEqDiff, Nat.reduceMul, Nat.reduceAdd, Nat.reduceSub, Int.reduceLE, Int.reduceLT, wD]
  refine aCall_of (wmul_spec c a hc ha) ?_
  simp only [go_sem, ↓reduceIte, reduceCtorEq, Nat.reduceLT, Nat.reduceLeDiff, Nat.reduceEqDiff, Nat.reduceMul, Nat.reduceAdd, Nat.reduceSub, Int.reduceLE, Int.reduceLT, wD]
  refine aCall_of h3 ?_
  simp only [go_sem, ↓reduceIte, reduceCtorEq, Nat.reduceLT, Nat.reduceLeDiff, Nat.reduceEqDiff, Nat.reduceMul, Nat.reduceAdd, Nat.reduceSub, Int.reduceLE, Int.reduceLT, wAns, wD, bool_self, beq_self_eq_true]
  refine aCall_of (wmul_spec a b ha hb) ?_
  simp only [go_sem, ↓reduceIte, reduceCtorEq, Nat.reduceLT, Nat.reduceLeDiff, Nat.reduceEqDiff, Nat.reduceMul, Nat.reduceAdd, Nat.reduceSub, Int.reduceLE, Int.reduceLT, wD, bool_self, beq_self_eq_true]
  refine aCall_of h4 ?_
  simp only [go_sem, ↓reduceIte, reduceCtorEq, Nat.reduceLT, Nat.reduceLeDiff, Nat.reduceEqDiff, Nat.reduceMul, Nat.reduceAdd, Nat.reduceSub, Int.reduceLE, Int.reduceLT, wD, bool_self, beq_self_eq_true]
theorem cmpI_neg (a b : Int) : cmpI b a = - cmpI a b := by
  unfold cmpI
  by_cases h1 : a < b
  · rw [if_pos h1, if_neg (by omega), if_neg (by omega)]; rfl
  · by_cases h2 : a = b
    · rw [if_neg h1, if_pos h2, if_neg (by omega), if_pos h2.symm]; rfl
    · rw [if_neg h1, if_neg h2, if_pos (by omega)]
theorem cmpI_self (a : Int) : cmpI a a = 0 := by simp [cmpI]
theorem cmpI_zero (a b : Int) : (cmpI a b == 0) = (a == b) := by
  unfold cmpI
  by_cases h1 : a < b
  · rw [if_pos h1]
    have : (a == b) = false := by simpa using (by omega : ¬ a = b)
    rw [this]; rfl
  · by_cases h2 : a = b
    · rw [if_neg h1, if_pos h2, h2]; simp
    · rw [if_neg h1, if_neg h2]
      have : (a == b) = false := by simpa using h2
      rw [this]; rfl
theorem cmpI_le (a b : Int) : cmpI a b ≤ 0 ↔ a ≤ b := by
  unfold cmpI
  by_cases h1 : a < b
  · rw [if_pos h1]; omega
  · by_cases h2 : a = b
    · rw [if_neg h1, if_pos h2]; omega
    · rw [if_neg h1, if_neg h2]; omega
theorem cmpI_range (a b : Int) : -1 ≤ cmpI a b ∧ cmpI a b ≤ 1 := by
  unfold cmpI
  by_cases h1 : a < b
  · rw [if_pos h1]; omega
  · by_cases h2 : a = b
    · rw [if_neg h1, if_pos h2]; omega
    · rw [if_neg h1, if_neg h2]; omega
theorem cmpI_sub (a b : Int) : cmpI (a - b) 0 = cmpI a b := by
  unfold cmpI
  by_cases h1 : a < b
  · rw [if_pos h1, if_pos (by omega)]
  · by_cases h2 : a = b
    · rw [if_neg h1, if_pos h2, if_neg (by omega), if_pos (by omega)]
    · rw [if_neg h1, if_neg h2, if_neg (by omega), if_neg (by omega)]
theorem wideOrders_spec (a b c : Int) (ha : Wid a) (hb : Wid b) (hc : Wid c) : FSpec Try.prog 11 [(true, wD a), (true, wD b), (true, wD c)] yes := by
  refine fspec_of aDraw (aDraw_ok mixed) Try.func11 rfl (by decide) [0, 1, 2, 3, 4, 5, 6, 7, 8] (rs := [.tmp 6]) rfl (by decide) (n := 67) rfl (by simp) ?_
  have hba := wcmp_spec b a
  rw [cmpI_neg] at hba
  have r := cmpI_range a b
  have e0 : IntKind.i64.wrap (0 - -cmpI a b) = cmpI a b := by rw [i64_wrap _ (by omega) (by omega)]; omega
  have haa := wcmp_spec a a
  rw [cmpI_self] at haa
  simp only [go_sem, ↓reduceIte, reduceCtorEq, Nat.reduceLT, Nat.reduceLeDiff, Nat.reduceEqDiff, Nat.reduceMul, Nat.reduceAdd, Nat.reduceSub, Int.reduceLE, Int.reduceLT, wD]
  refine aCall_of wknown_spec ?_
  simp only [go_sem, ↓reduceIte, reduceCtorEq, Nat.reduceLT, Nat.reduceLeDiff, Nat.reduceEqDiff, Nat.reduceMul, Nat.reduceAdd, Nat.reduceSub, Int.reduceLE, Int.reduceLT, yes]
  refine aCall_of (wcmp_spec a b) ?_
  simp only [go_sem, ↓reduceIte, reduceCtorEq, Nat.reduceLT, Nat.reduceLeDiff, Nat.reduceEqDiff, Nat.reduceMul, Nat.reduceAdd, Nat.reduceSub, Int.reduceLE, Int.reduceLT]
  refine aCall_of hba ?_
  simp only [go_sem, ↓reduceIte, reduceCtorEq, Nat.reduceLT, Nat.reduceLeDiff, Nat.reduceEqDiff, Nat.reduceMul, Nat.reduceAdd, Nat.reduceSub, Int.reduceLE, Int.reduceLT, e0, bne_self_eq_false]
  refine aCall_of haa ?_
  simp only [go_sem, ↓reduceIte, reduceCtorEq, Nat.reduceLT, Nat.reduceLeDiff, Nat.reduceEqDiff, Nat.reduceMul, Nat.reduceAdd, Nat.reduceSub, Int.reduceLE, Int.reduceLT, bne_self_eq_false, Int.reduceBNe]
  refine aCall_of (wcmp_spec a b) ?_
  simp only [go_sem, ↓reduceIte, reduceCtorEq, Nat.reduceLT, Nat.reduceLeDiff, Nat.reduceEqDiff, Nat.reduceMul, Nat.reduceAdd, Nat.reduceSub, Int.reduceLE, Int.reduceLT, wD_eq, cmpI_zero, bne_self_eq_false, bool_self]
  refine ⟨by kernel_rfl, ?_⟩
  refine aCall_of (wcmp_spec a b) ?_
  simp only [go_sem, ↓reduceIte, reduceCtorEq, Nat.reduceLT, Nat.reduceLeDiff, Nat.reduceEqDiff, Nat.reduceMul, Nat.reduceAdd, Nat.reduceSub, Int.reduceLE, Int.reduceLT]
  have hsub := wsub_spec a b ha hb
  have last : ∀ s : S, s = s := fun _ => rfl
  have sg := wsign_spec (wfitV (a - b))
  have fin : wfit (a - b) = true → cmpI (wfitV (a - b)) 0 = cmpI a b := fun h => by
    have hw : Wid (a - b) := by simpa [wfit] using h
    rw [wfitV, if_pos hw, cmpI_sub]
  have hac := cmpI_le a c
  have hab := cmpI_le a b
  have hbc := cmpI_le b c
  refine ⟨fun h1 => ?_, fun h1 => ?_⟩
  · refine aCall_of (wcmp_spec b c) ?_
    simp only [go_sem, ↓reduceIte, reduceCtorEq, Nat.reduceLT, Nat.reduceLeDiff, Nat.reduceEqDiff, Nat.reduceMul, Nat.reduceAdd, Nat.reduceSub, Int.reduceLE, Int.reduceLT]
    refine ⟨fun h2 => ?_, fun h2 => ?_⟩
    · refine aCall_of (wcmp_spec a c) ?_
      simp only [go_sem, ↓reduceIte, reduceCtorEq, Nat.reduceLT, Nat.reduceLeDiff, Nat.reduceEqDiff, Nat.reduceMul, Nat.reduceAdd, Nat.reduceSub, Int.reduceLE, Int.reduceLT]
      refine ⟨fun h3 => by omega, fun h3 => ?_⟩
      refine aCall_of hsub ?_
      simp only [go_sem, ↓reduceIte, reduceCtorEq, Nat.reduceLT, Nat.reduceLeDiff, Nat.reduceEqDiff, Nat.reduceMul, Nat.reduceAdd, Nat.reduceSub, Int.reduceLE, Int.reduceLT, wAns, wD]
      refine ⟨fun h4 => ?_, fun h4 => by show _ = true; kernel_rfl⟩
      have h5 : wfit (a - b) = true := by
        cases hf : wfit (a - b)
        · rw [hf] at h4; cases h4
        · rfl
      refine aCall_of sg ?_
      simp only [go_sem, ↓reduceIte, reduceCtorEq, Nat.reduceLT, Nat.reduceLeDiff, Nat.reduceEqDiff, Nat.reduceMul, Nat.reduceAdd, Nat.reduceSub, Int.reduceLE, Int.reduceLT, wAns, wD]
      refine aCall_of (wcmp_spec a b) ?_
      simp only [go_sem, ↓reduceIte, reduceCtorEq, Nat.reduceLT, Nat.reduceLeDiff, Nat.reduceEqDiff, Nat.reduceMul, Nat.reduceAdd, Nat.reduceSub, Int.reduceLE, Int.reduceLT, fin h5, beq_self_eq_true]
      show _ = true
      kernel_rfl
    · refine aCall_of hsub ?_
      simp only [go_sem, ↓reduceIte, reduceCtorEq, Nat.reduceLT, Nat.reduceLeDiff, Nat.reduceEqDiff, Nat.reduceMul, Nat.reduceAdd, Nat.reduceSub, Int.reduceLE, Int.reduceLT, wAns, wD]
      refine ⟨fun h4 => ?_, fun h4 => by show _ = true; kernel_rfl⟩
      have h5 : wfit (a - b) = true := by
        cases hf : wfit (a - b)
        · rw [hf] at h4; cases h4
        · rfl
      refine aCall_of sg ?_
      simp only [go_sem, ↓reduceIte, reduceCtorEq, Nat.reduceLT, Nat.reduceLeDiff, Nat.reduceEqDiff, Nat.reduceMul, Nat.reduceAdd, Nat.reduceSub, Int.reduceLE, Int.reduceLT, wAns, wD]
      refine aCall_of (wcmp_spec a b) ?_
      simp only [go_sem, ↓reduceIte, reduceCtorEq, Nat.reduceLT, Nat.reduceLeDiff, Nat.reduceEqDiff, Nat.reduceMul, Nat.reduceAdd, Nat.reduceSub, Int.reduceLE, Int.reduceLT, fin h5, beq_self_eq_true]
      show _ = true
      kernel_rfl
  · refine aCall_of hsub ?_
    simp only [go_sem, ↓reduceIte, reduceCtorEq, Nat.reduceLT, Nat.reduceLeDiff, Nat.reduceEqDiff, Nat.reduceMul, Nat.reduceAdd, Nat.reduceSub, Int.reduceLE, Int.reduceLT, wAns, wD]
    refine ⟨fun h4 => ?_, fun h4 => by show _ = true; kernel_rfl⟩
    have h5 : wfit (a - b) = true := by
      cases hf : wfit (a - b)
      · rw [hf] at h4; cases h4
      · rfl
    refine aCall_of sg ?_
    simp only [go_sem, ↓reduceIte, reduceCtorEq, Nat.reduceLT, Nat.reduceLeDiff, Nat.reduceEqDiff, Nat.reduceMul, Nat.reduceAdd, Nat.reduceSub, Int.reduceLE, Int.reduceLT, wAns, wD]
    refine aCall_of (wcmp_spec a b) ?_
    simp only [go_sem, ↓reduceIte, reduceCtorEq, Nat.reduceLT, Nat.reduceLeDiff, Nat.reduceEqDiff, Nat.reduceMul, Nat.reduceAdd, Nat.reduceSub, Int.reduceLE, Int.reduceLT, fin h5, beq_self_eq_true]
    show _ = true
    kernel_rfl
end Go.Ax
