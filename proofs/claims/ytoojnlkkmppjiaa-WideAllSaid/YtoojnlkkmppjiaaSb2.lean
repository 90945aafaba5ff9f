/- A part of the proof: Sb2. -/
import Derived.Test.YtoojnlkkmppjiaaSb1
set_option linter.unusedVariables false
set_option linter.unusedSimpArgs false
set_option linter.unusedSimpArgs false
set_option linter.unusedVariables false
namespace Go.Ax
open Go Go.Proofs
set_option maxRecDepth 100000
theorem sumI_bound {l : List Int} (hl : ∀ x ∈ l, I64 x) (i : Nat) (hi : i ≤ l.length) (hn : l.length < 2 ^ 20) : (sumI l i).natAbs < BB ^ 4 := by
  have h : (sumI l i).natAbs ≤ i * 9223372036854775808 := by
    induction i with
    | zero => simp [sumI]
    | succ i ih =>
      have hx : I64 (l[i]?.getD 0) := hl _ (by rw [List.getElem?_eq_getElem (by omega)]; exact List.getElem_mem _)
      have := ih (by omega)
      rw [sumI_succ (by omega)]
      simp only [I64] at hx
      omega
  have e : BB ^ 4 = 340282366920938463463374607431768211456 := by decide
  omega
theorem sumInts_spec (l : List Int) (hl : ∀ x ∈ l, I64 x) (hn : l.length < 2 ^ 20) : FSpec Try.prog 27 [(false, [.l (rowsI l)])] [.agg (bigDs l.sum)] := by
  refine fspec_of aDraw (aDraw_ok mixed) Try.func27 rfl (by decide) [0, 2, 3, 4] (rs := [.cell 2 25]) rfl (by decide) (n := 19) rfl (by simp) ?_
  simp only [go_sem, ↓reduceIte, reduceCtorEq, Nat.reduceLT, Nat.reduceLeDiff, Nat.reduceEqDiff, Nat.reduceMul, Nat.reduceAdd, Nat.reduceSub, Int.reduceLE, Int.reduceLT]
  rw [aCode_loop]
  refine aLoop_of (α := Nat × Leaf × Leaf) (fun p => ⟨19, [], [(0, .one (.l (rowsI l))), (2, .box [.d (.v (.bool false)), .own 0 []]), (3, .box [p.2.1, p.2.2]), (4, .one (.v (.int .i64 p.1)))]⟩)
    (fun p => p.1 ≤ l.length ∧ ((p.1 = 0 ∧ p.2.1 = .d (.v (.bool false)) ∧ p.2.2 = .own 0 []) ∨ (p.2.1 = .d (.v (.bool (decide (sumI l p.1 < 0)))) ∧ p.2.2 = .d (.l (rowsU (digs (sumI l p.1).natAbs)))))) (fun p => l.length - p.1)
    (0, .d (.v (.bool false)), .own 0 []) ⟨Nat.zero_le _, .inl ⟨rfl, rfl, rfl⟩⟩ rfl (fun ⟨i, f1, f2⟩ ⟨g1, g2⟩ => ?_)
  simp only at g1 g2
  have hb0 := sumI_bound hl i g1 hn
  have hlen : ∀ z : Int, z.natAbs < BB ^ 4 → (digs z.natAbs).length < 2 ^ 39 := fun z h => by have := (digs_len _ _).2 h; omega
  have hend : ¬ (i : Int) < l.length → sumI l i = l.sum := fun h => by
    have : i = l.length := by omega
    rw [this, sumI, List.take_length]
  have hstep : (i : Int) < l.length → I64 (l[i]?.getD 0) ∧ sumI l (i + 1) = sumI l i + l[i]?.getD 0 := fun h => by
    refine ⟨hl _ ?_, sumI_succ (by omega)⟩
    rw [List.getElem?_eq_getElem (by omega)]; exact List.getElem_mem _
  have hzero : [D.v (.bool false), D.l []] = bigDs 0 := by simp [bigDs, digs_zero, rowsU]
  rcases g2 with ⟨e0, e1, e2⟩ | ⟨e1, e2⟩
  · rw [e1, e2]
    have hs0 : sumI l i = 0 := by rw [e0]; simp [sumI]
    simp only [go_sem, ↓reduceIte, reduceCtorEq, Nat.reduceLT, Nat.reduceLeDiff, Nat.reduceEqDiff, Nat.reduceMul, Nat.reduceAdd, Nat.reduceSub, Int.reduceLE, Int.reduceLT]
    refine ⟨fun h => ⟨by omega, h, ?_⟩, fun h => ?_⟩
    · obtain ⟨hx, hs⟩ := hstep h
      rw [Int.toNat_natCast]
      refine aCall_of (whole_spec _ hx.1 hx.2) ?_
      simp only [go_sem, ↓reduceIte, reduceCtorEq, Nat.reduceLT, Nat.reduceLeDiff, Nat.reduceEqDiff, Nat.reduceMul, Nat.reduceAdd, Nat.reduceSub, Int.reduceLE, Int.reduceLT]
      have hp := plus_spec 0 (l[i]?.getD 0) (by simp [digs_zero]) (hlen _ (by simp only [I64] at hx; simp only [BB]; omega))
      rw [← hzero] at hp
      refine aCall_of hp ?_
      simp only [go_sem, ↓reduceIte, reduceCtorEq, Nat.reduceLT, Nat.reduceLeDiff, Nat.reduceEqDiff, Nat.reduceMul, Nat.reduceAdd, Nat.reduceSub, Int.reduceLE, Int.reduceLT]
      refine ⟨by kernel_rfl, Round.mk (i + 1, .d (.v (.bool (decide (sumI l (i + 1) < 0)))), .d (.l (rowsU (digs (sumI l (i + 1)).natAbs)))) ⟨by show i + 1 ≤ _; omega, .inr ⟨rfl, rfl⟩⟩ (by show l.length - (i + 1) < l.length - i; omega) ?_⟩
      simp only [S.shut, i64_wrap ((i : Int) + 1) (by omega) (by omega), hs, hs0]
      rfl
    · rw [← hend h, hs0]
      simp [digs_zero, rowsU]
  · rw [e1, e2]
    simp only [go_sem, ↓reduceIte, reduceCtorEq, Nat.reduceLT, Nat.reduceLeDiff, Nat.reduceEqDiff, Nat.reduceMul, Nat.reduceAdd, Nat.reduceSub, Int.reduceLE, Int.reduceLT]
    refine ⟨fun h => ⟨by omega, h, ?_⟩, fun h => ?_⟩
    · obtain ⟨hx, hs⟩ := hstep h
      rw [Int.toNat_natCast]
      refine aCall_of (whole_spec _ hx.1 hx.2) ?_
      simp only [go_sem, ↓reduceIte, reduceCtorEq, Nat.reduceLT, Nat.reduceLeDiff, Nat.reduceEqDiff, Nat.reduceMul, Nat.reduceAdd, Nat.reduceSub, Int.reduceLE, Int.reduceLT]
      have hp := plus_spec (sumI l i) (l[i]?.getD 0) (hlen _ hb0) (hlen _ (by simp only [I64] at hx; simp only [BB]; omega))
      refine aCall_of hp ?_
      simp only [go_sem, ↓reduceIte, reduceCtorEq, Nat.reduceLT, Nat.reduceLeDiff, Nat.reduceEqDiff, Nat.reduceMul, Nat.reduceAdd, Nat.reduceSub, Int.reduceLE, Int.reduceLT]
      refine ⟨by kernel_rfl, Round.mk (i + 1, .d (.v (.bool (decide (sumI l (i + 1) < 0)))), .d (.l (rowsU (digs (sumI l (i + 1)).natAbs)))) ⟨by show i + 1 ≤ _; omega, .inr ⟨rfl, rfl⟩⟩ (by show l.length - (i + 1) < l.length - i; omega) ?_⟩
      simp only [S.shut, i64_wrap ((i : Int) + 1) (by omega) (by omega), hs]
      rfl
    · rw [hend h]
end Go.Ax
