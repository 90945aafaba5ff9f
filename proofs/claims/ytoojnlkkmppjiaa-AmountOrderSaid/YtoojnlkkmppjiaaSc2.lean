/- AmountBack, AmountOrder, AmountSums tell true. -/
import Derived.Test.YtoojnlkkmppjiaaSc1
set_option linter.unusedVariables false
set_option linter.unusedSimpArgs false
set_option linter.unusedSimpArgs false
set_option linter.unusedVariables false
namespace Go.Ax
open Go Go.Proofs
set_option maxRecDepth 100000
theorem fit_of {z : Int} (h : I64 z) : fit z = true ∧ fitV z = z := amt_yes h
theorem fit_true {z : Int} (h : fit z = true) : I64 z := by
  by_cases hz : -9223372036854775808 ≤ z ∧ z < 9223372036854775808
  · exact hz
  · rw [(amt_no hz).1] at h; exact absurd h (by decide)
theorem bool_self (b : Bool) : (b == b) = true := by simp
theorem amountBack_spec (a b : Int) (ha : I64 a) (hb : I64 b) : FSpec Try.prog 5 [(false, [.v (.int .i64 a)]), (false, [.v (.int .i64 b)])] yes := by
  refine fspec_of aDraw (aDraw_ok mixed) Try.func5 rfl (by decide) [0, 1, 4, 5, 6, 7, 8, 9, 10, 11, 12, 13, 14] (rs := [.tmp 4]) rfl (by decide) (n := 68) rfl (by simp) ?_
  have fa := fit_of ha
  have fb := fit_of hb
  have m1 : I64 1 := by simp [I64]
  have m2 : I64 (-1) := by simp [I64]
  have en : a * -1 = -a := by omega
  have hm1 := mul_spec a 1 ha m1
  have hm2 := mul_spec a (-1) ha m2
  rw [en] at hm2
  rw [Int.mul_one] at hm1
  simp only [amt, fa.1, fa.2] at hm1
  simp only [go_sem, ↓reduceIte, reduceCtorEq, Nat.reduceLT, Nat.reduceLeDiff, Nat.reduceEqDiff, Nat.reduceMul, Nat.reduceAdd, Nat.reduceSub, Int.reduceLE, Int.reduceLT]
  refine aCall_of known_spec ?_
  simp only [go_sem, ↓reduceIte, reduceCtorEq, Nat.reduceLT, Nat.reduceLeDiff, Nat.reduceEqDiff, Nat.reduceMul, Nat.reduceAdd, Nat.reduceSub, Int.reduceLE, Int.reduceLT]
  refine aCall_of (add_spec a b ha hb) ?_
  simp only [go_sem, ↓reduceIte, reduceCtorEq, Nat.reduceLT, Nat.reduceLeDiff, Nat.reduceEqDiff, Nat.reduceMul, Nat.reduceAdd, Nat.reduceSub, Int.reduceLE, Int.reduceLT, amt]
  refine ⟨fun h => ?_, fun h => ?_⟩
  · have hab := fit_true h
    have fab := fit_of hab
    have hs := sub_spec (a + b) b hab hb
    rw [show a + b - b = a by omega] at hs
    simp only [amt, fa.1, fa.2] at hs
    simp only [fab.1, fab.2]
    refine aCall_of hs ?_
    simp only [go_sem, ↓reduceIte, reduceCtorEq, Nat.reduceLT, Nat.reduceLeDiff, Nat.reduceEqDiff, Nat.reduceMul, Nat.reduceAdd, Nat.reduceSub, Int.reduceLE, Int.reduceLT, amt, bne_self_eq_false]
    refine aCall_of hm1 ?_
    simp only [go_sem, ↓reduceIte, reduceCtorEq, Nat.reduceLT, Nat.reduceLeDiff, Nat.reduceEqDiff, Nat.reduceMul, Nat.reduceAdd, Nat.reduceSub, Int.reduceLE, Int.reduceLT, amt]
    refine aCall_of hm2 ?_
    simp only [go_sem, ↓reduceIte, reduceCtorEq, Nat.reduceLT, Nat.reduceLeDiff, Nat.reduceEqDiff, Nat.reduceMul, Nat.reduceAdd, Nat.reduceSub, Int.reduceLE, Int.reduceLT, amt]
    refine aCall_of (neg_spec a ha) ?_
    simp only [go_sem, ↓reduceIte, reduceCtorEq, Nat.reduceLT, Nat.reduceLeDiff, Nat.reduceEqDiff, Nat.reduceMul, Nat.reduceAdd, Nat.reduceSub, Int.reduceLE, Int.reduceLT, amt, bool_self, decide_true, beq_self_eq_true, yes]
  · refine aCall_of hm1 ?_
    simp only [go_sem, ↓reduceIte, reduceCtorEq, Nat.reduceLT, Nat.reduceLeDiff, Nat.reduceEqDiff, Nat.reduceMul, Nat.reduceAdd, Nat.reduceSub, Int.reduceLE, Int.reduceLT, amt]
    refine aCall_of hm2 ?_
    simp only [go_sem, ↓reduceIte, reduceCtorEq, Nat.reduceLT, Nat.reduceLeDiff, Nat.reduceEqDiff, Nat.reduceMul, Nat.reduceAdd, Nat.reduceSub, Int.reduceLE, Int.reduceLT, amt]
    refine aCall_of (neg_spec a ha) ?_
    simp only [go_sem, ↓reduceIte, reduceCtorEq, Nat.reduceLT, Nat.reduceLeDiff, Nat.reduceEqDiff, Nat.reduceMul, Nat.reduceAdd, Nat.reduceSub, Int.reduceLE, Int.reduceLT, amt, bool_self, decide_true, beq_self_eq_true, yes]
theorem leastI_le (l : List Int) : ∀ n i : Nat, i < n → l[leastI l n]?.getD 0 ≤ l[i]?.getD 0 := by
  intro n
  induction n with
  | zero => intro i h; omega
  | succ n ih =>
    intro i h
    simp only [leastI]
    split
    · next h1 =>
      rcases Nat.lt_or_ge i n with h2 | h2
      · have := ih i h2; omega
      · have : i = n := by omega
        subst this; omega
    · next h1 =>
      rcases Nat.lt_or_ge i n with h2 | h2
      · exact ih i h2
      · have : i = n := by omega
        subst this; omega
theorem leastI_first (l : List Int) : ∀ n i : Nat, i < leastI l n → l[leastI l n]?.getD 0 < l[i]?.getD 0 := by
  intro n
  induction n with
  | zero => intro i h; simp only [leastI] at h; omega
  | succ n ih =>
    intro i h
    simp only [leastI] at h ⊢
    split at h
    · next h1 =>
      rw [if_pos h1]
      have := leastI_le l n i h
      omega
    · next h1 =>
      rw [if_neg h1]
      exact ih i h
theorem amountSums_spec (l : List Int) (hl : ∀ x ∈ l, I64 x) (hn0 : l.length < 2 ^ 44) : FSpec Try.prog 4 [(false, [.l (rowsI l)])] yes := by
  refine fspec_of aDraw (aDraw_ok mixed) Try.func4 rfl (by decide) [0, 2, 3, 4, 5, 6, 7] (rs := [.tmp 2]) rfl (by decide) (n := 79) rfl (by simp) ?_
  simp only [go_sem, ↓reduceIte, reduceCtorEq, Nat.reduceLT, Nat.reduceLeDiff, Nat.reduceEqDiff, Nat.reduceMul, Nat.reduceAdd, Nat.reduceSub, Int.reduceLE, Int.reduceLT]
  refine aCall_of known_spec ?_
  simp only [go_sem, ↓reduceIte, reduceCtorEq, Nat.reduceLT, Nat.reduceLeDiff, Nat.reduceEqDiff, Nat.reduceMul, Nat.reduceAdd, Nat.reduceSub, Int.reduceLE, Int.reduceLT]
  refine ⟨fun h => ?_, fun h => ?_⟩
  · rfl
  have hn20 : l.length ≤ 60 := by omega
  have hn : l.length < 2 ^ 40 := by omega
  refine aCall_of (asum_spec l hl hn) ?_
  simp only [go_sem, ↓reduceIte, reduceCtorEq, Nat.reduceLT, Nat.reduceLeDiff, Nat.reduceEqDiff, Nat.reduceMul, Nat.reduceAdd, Nat.reduceSub, Int.reduceLE, Int.reduceLT, amt]
  refine aCall_of (least_spec l hn) ?_
  simp only [go_sem, ↓reduceIte, reduceCtorEq, Nat.reduceLT, Nat.reduceLeDiff, Nat.reduceEqDiff, Nat.reduceMul, Nat.reduceAdd, Nat.reduceSub, Int.reduceLE, Int.reduceLT, amt]
  refine aCall_of (sumInts_spec l hl (by omega)) ?_
  simp only [go_sem, ↓reduceIte, reduceCtorEq, Nat.reduceLT, Nat.reduceLeDiff, Nat.reduceEqDiff, Nat.reduceMul, Nat.reduceAdd, Nat.reduceSub, Int.reduceLE, Int.reduceLT, amt]
  have hls : (digs l.sum.natAbs).length < 2 ^ 40 := by
    have hb := sumI_bound hl l.length (Nat.le_refl _) (by omega)
    rw [sumI, List.take_length] at hb
    have := digsZ_le 4 hb
    omega
  refine aCall_of (told_true l.sum hls) ?_
  simp only [go_sem, ↓reduceIte, reduceCtorEq, Nat.reduceLT, Nat.reduceLeDiff, Nat.reduceEqDiff, Nat.reduceMul, Nat.reduceAdd, Nat.reduceSub, Int.reduceLE, Int.reduceLT, yes]
  by_cases h0 : l.length = 0
  · rw [h0]
    simp [leastI]
  have hpos : 0 < l.length := by omega
  have hlt := leastI_lt l l.length hpos
  rw [decide_eq_true hpos, decide_eq_true (show (l.length : Int) > 0 by omega)]
  simp only [Bool.not_true, Bool.false_eq_true, false_implies, true_and, forall_const, show (false == true) = false from rfl]
  refine ⟨fun h => absurd h (by decide), fun _ => ⟨fun _ => ⟨fun h => by omega, fun _ => ?_⟩, fun h => by omega⟩⟩
  rw [aCode_loop]
  refine aLoop_of (α := Nat) (fun i => ⟨79, [], [(0, .one (.l (rowsI l))), (2, .one (.v (.bool false))), (3, .one (.v (.int .i64 (fitV l.sum)))), (4, .one (.v (.bool (fit l.sum)))), (5, .one (.v (.int .i64 (leastI l l.length)))), (6, .one (.v (.bool true))), (7, .one (.v (.int .i64 i)))]⟩)
    (fun i => i ≤ l.length) (fun i => l.length - i) 0 (Nat.zero_le _) rfl (fun i g1 => ?_)
  simp only [go_sem, ↓reduceIte, reduceCtorEq, Nat.reduceLT, Nat.reduceLeDiff, Nat.reduceEqDiff, Nat.reduceMul, Nat.reduceAdd, Nat.reduceSub, Int.reduceLE, Int.reduceLT]
  have hle := leastI_le l l.length
  have hfi := leastI_first l l.length
  have round : ∀ s : S, s.shut = ⟨79, [], [(0, .one (.l (rowsI l))), (2, .one (.v (.bool false))), (3, .one (.v (.int .i64 (fitV l.sum)))), (4, .one (.v (.bool (fit l.sum)))), (5, .one (.v (.int .i64 (leastI l l.length)))), (6, .one (.v (.bool true))), (7, .one (.v (.int .i64 (IntKind.i64.wrap ((i : Int) + 1)))))]⟩ → (i : Int) < l.length → Round (fun i : Nat => (⟨79, [], [(0, .one (.l (rowsI l))), (2, .one (.v (.bool false))), (3, .one (.v (.int .i64 (fitV l.sum)))), (4, .one (.v (.bool (fit l.sum)))), (5, .one (.v (.int .i64 (leastI l l.length)))), (6, .one (.v (.bool true))), (7, .one (.v (.int .i64 i)))]⟩ : S)) (fun i => i ≤ l.length) (fun i => l.length - i) (l.length - i) s := fun s hs h1 => by
    refine Round.mk (i + 1) (by omega) (by omega) ?_
    rw [hs, i64_wrap ((i : Int) + 1) (by omega) (by omega)]
    rfl
  refine fun h1 => ⟨by omega, h1, by omega, by omega, fun h2 => ⟨fun h3 => ⟨by omega, h1, by omega, by omega, by kernel_rfl, fun h4 => ?_, fun _ => round _ rfl h1⟩, fun h3 => ⟨by kernel_rfl, round _ rfl h1⟩⟩, fun h2 => ?_⟩
  · have := hfi i (by omega)
    simp only [Int.toNat_natCast] at h4
    omega
  · have := hle i (by omega)
    simp only [Int.toNat_natCast] at h2
    omega
end Go.Ax
