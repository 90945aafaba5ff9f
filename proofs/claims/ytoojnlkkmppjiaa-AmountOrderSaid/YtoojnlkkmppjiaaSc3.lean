/- AmountOrder tells true. -/
import Derived.Test.YtoojnlkkmppjiaaSc2
set_option linter.unusedVariables false
set_option linter.unusedSimpArgs false
set_option linter.unusedSimpArgs false
set_option linter.unusedVariables false
namespace Go.Ax
open Go Go.Proofs
set_option maxRecDepth 100000
theorem rowsI_append (l m : List Int) : rowsI l ++ rowsI m = rowsI (l ++ m) := by simp [rowsI]
theorem rowsI_one (x : Int) : [[D.v (.int .i64 x)]] = rowsI [x] := rfl
theorem amountOrder_spec (a b : Int) (ha : I64 a) (hb : I64 b) (l : List Int) (hl : ∀ x ∈ l, I64 x) (hn0 : l.length < 2 ^ 44) : FSpec Try.prog 6 [(false, [.v (.int .i64 a)]), (false, [.v (.int .i64 b)]), (false, [.l (rowsI l)])] yes := by
  refine fspec_of aDraw (aDraw_ok mixed) Try.func6 rfl (by decide) [0, 1, 2, 6, 7, 8, 9, 10, 11, 12, 13, 14, 15, 16, 17, 18, 19, 20] (rs := [.tmp 6]) rfl (by decide) (n := 102) rfl (by simp) ?_
  simp only [go_sem, ↓reduceIte, reduceCtorEq, Nat.reduceLT, Nat.reduceLeDiff, Nat.reduceEqDiff, Nat.reduceMul, Nat.reduceAdd, Nat.reduceSub, Int.reduceLE, Int.reduceLT]
  refine aCall_of known_spec ?_
  simp only [go_sem, ↓reduceIte, reduceCtorEq, Nat.reduceLT, Nat.reduceLeDiff, Nat.reduceEqDiff, Nat.reduceMul, Nat.reduceAdd, Nat.reduceSub, Int.reduceLE, Int.reduceLT]
  refine ⟨fun h => ?_, fun h => ?_⟩
  · rfl
  have hn20 : l.length ≤ 60 := by omega
  have hn : l.length < 2 ^ 40 := by omega
  rw [aCode_loop]
  refine aLoop_of (α := Nat) (fun i => ⟨102, [], [(0, .one (.v (.int .i64 a))), (1, .one (.v (.int .i64 b))), (2, .one (.l (rowsI l))), (6, .one (.v (.bool false))), (7, .own 1 (rowsI ((l.drop i).reverse))), (8, .one (.v (.int .i64 ((i : Int) - 1)))), (9, .none), (10, .none), (11, .none), (12, .none), (13, .none), (14, .none), (15, .none), (16, .none), (17, .none), (18, .none), (19, .none), (20, .none)]⟩)
    (fun i => i ≤ l.length) (fun i => i) l.length (Nat.le_refl _) ?_ (fun i g1 => ?_)
  · simp only [S.shut, List.drop_length, List.reverse_nil, i64_wrap ((l.length : Int) - 1) (by omega) (by omega)]
    rfl
  simp only [go_sem, ↓reduceIte, reduceCtorEq, Nat.reduceLT, Nat.reduceLeDiff, Nat.reduceEqDiff, Nat.reduceMul, Nat.reduceAdd, Nat.reduceSub, Int.reduceLE, Int.reduceLT]
  refine ⟨fun h1 => ?_, fun h1 => ?_⟩
  · have e1 : ((i : Int) - 1).toNat = i - 1 := by omega
    have e2 : (l.drop (i - 1)).reverse = (l.drop i).reverse ++ [l[i - 1]?.getD 0] := by
      rw [List.drop_eq_getElem_cons (show i - 1 < l.length by omega), List.reverse_cons, show i - 1 + 1 = i by omega, List.getElem?_eq_getElem (show i - 1 < l.length by omega)]
      rfl
    refine ⟨h1, by omega, by simp, by simp only [List.length_reverse, List.length_drop]; omega, by simp only [List.length_reverse, List.length_drop]; omega, ?_⟩
    refine Round.mk (i - 1) (by omega) (by omega) ?_
    simp only [S.shut, e1, e2, rowsI_one, rowsI_append, i64_wrap ((i : Int) - 1 - 1) (by omega) (by omega), show ((i - 1 : Nat) : Int) - 1 = (i : Int) - 1 - 1 by omega]
  · have e0 : i = 0 := by omega
    subst e0
    simp only [List.drop_zero]
    have hs := asum_spec l hl hn
    have hr := asum_spec l.reverse (fun x hx => hl x (List.mem_reverse.1 hx)) (by simpa using hn)
    have er : l.reverse.sum = l.sum := by
      have : ∀ l : List Int, l.reverse.sum = l.sum := fun l => by
        induction l with
        | nil => rfl
        | cons x r ih => rw [List.reverse_cons, List.sum_append, ih]; simp [Int.add_comm]
      exact this l
    rw [er] at hr
    have ab := add_spec b a hb ha
    have mb := mul_spec b a hb ha
    rw [Int.add_comm] at ab
    rw [Int.mul_comm] at mb
    refine aCall_of (add_spec a b ha hb) ?_
    simp only [go_sem, ↓reduceIte, reduceCtorEq, Nat.reduceLT, Nat.reduceLeDiff, Nat.reduceEqDiff, Nat.reduceMul, Nat.reduceAdd, Nat.reduceSub, Int.reduceLE, Int.reduceLT, amt]
    refine aCall_of ab ?_
    simp only [go_sem, ↓reduceIte, reduceCtorEq, Nat.reduceLT, Nat.reduceLeDiff, Nat.reduceEqDiff, Nat.reduceMul, Nat.reduceAdd, Nat.reduceSub, Int.reduceLE, Int.reduceLT, amt]
    refine aCall_of (mul_spec a b ha hb) ?_
    simp only [go_sem, ↓reduceIte, reduceCtorEq, Nat.reduceLT, Nat.reduceLeDiff, Nat.reduceEqDiff, Nat.reduceMul, Nat.reduceAdd, Nat.reduceSub, Int.reduceLE, Int.reduceLT, amt]
    refine aCall_of mb ?_
    simp only [go_sem, ↓reduceIte, reduceCtorEq, Nat.reduceLT, Nat.reduceLeDiff, Nat.reduceEqDiff, Nat.reduceMul, Nat.reduceAdd, Nat.reduceSub, Int.reduceLE, Int.reduceLT, amt]
    refine aCall_of hs ?_
    simp only [go_sem, ↓reduceIte, reduceCtorEq, Nat.reduceLT, Nat.reduceLeDiff, Nat.reduceEqDiff, Nat.reduceMul, Nat.reduceAdd, Nat.reduceSub, Int.reduceLE, Int.reduceLT, amt]
    refine aCall_of hr ?_
    simp only [go_sem, ↓reduceIte, reduceCtorEq, Nat.reduceLT, Nat.reduceLeDiff, Nat.reduceEqDiff, Nat.reduceMul, Nat.reduceAdd, Nat.reduceSub, Int.reduceLE, Int.reduceLT, amt, bool_self, decide_true, beq_self_eq_true, yes]
end Go.Ax
