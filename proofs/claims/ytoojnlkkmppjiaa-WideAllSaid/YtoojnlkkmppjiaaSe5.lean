/- WideAll tells true. -/
import Derived.Test.YtoojnlkkmppjiaaSe4
set_option linter.unusedVariables false
set_option linter.unusedSimpArgs false
set_option linter.unusedSimpArgs false
set_option linter.unusedVariables false
namespace Go.Ax
open Go Go.Proofs
set_option maxRecDepth 100000
set_option maxHeartbeats 4000000
theorem wideAll_spec (a b x y : Int) (ha : Wid a) (hb : Wid b) (hx : I64 x) (hy : I64 y) : FSpec Try.prog 7 [(true, wD a), (true, wD b), (false, [.v (.int .i64 x)]), (false, [.v (.int .i64 y)])] yes := by
  refine fspec_of aDraw (aDraw_ok mixed) Try.func7 rfl (by decide) [0, 1, 2, 3, 4, 5, 8, 9, 10, 11, 12, 13, 14, 15, 16, 17, 18, 19, 20, 21, 22, 23, 24] (rs := [.tmp 8]) rfl (by decide) (n := 150) rfl (by simp) ?_
  have ha' := ha
  have hb' := hb
  have hx' := hx
  have hy' := hy
  simp only [Wid, I64] at ha' hb' hx' hy'
  have wX : Wid x := by simp only [Wid]; omega
  have mul : ∀ p q : Int, p.natAbs ≤ 170141183460469231731687303715884105728 → q.natAbs ≤ 9223372036854775808 → (p * q).natAbs < BB ^ 7 := fun p q h1 h2 => by
    rw [Int.natAbs_mul]
    have := Nat.mul_le_mul h1 h2
    have e7 : BB ^ 7 = 26959946667150639794667015087019630673637144422540572481103610249216 := by decide
    omega
  have B7 : BB ^ 7 = 26959946667150639794667015087019630673637144422540572481103610249216 := by decide
  have la : (digs a.natAbs).length ≤ 4 := len_digs _ 4 (by rw [B4]; omega)
  have lb : (digs b.natAbs).length ≤ 4 := len_digs _ 4 (by rw [B4]; omega)
  have lx : (digs x.natAbs).length ≤ 4 := len_digs _ 4 (by rw [B4]; omega)
  have ly : (digs y.natAbs).length ≤ 4 := len_digs _ 4 (by rw [B4]; omega)
  have ld : (digs (a - b).natAbs).length ≤ 7 := len_digs _ 7 (by rw [B7]; omega)
  have mxy : Wid (x * y) := by
    have key := sgnI_mul x y
    have hm : (x.natAbs : Int) * (y.natAbs : Int) ≤ 9223372036854775808 * 9223372036854775808 := Int.mul_le_mul (by omega) (by omega) (by omega) (by omega)
    have hm0 : 0 ≤ (x.natAbs : Int) * (y.natAbs : Int) := Int.mul_nonneg (by omega) (by omega)
    rw [← key]
    simp only [Wid, sgnI]
    split <;> omega
  have told := fun z h => wtold_true z 7 (by omega) (by omega) h
  have tmul := told (x * y) (mul x y (by omega) (by omega))
  have tof := told x (by rw [B7]; omega)
  simp only [wfitV, wfit, if_pos mxy, decide_eq_true mxy] at tmul
  simp only [wfitV, wfit, if_pos wX, decide_eq_true wX] at tof
  have hint := wint_spec a ha
  have hrint := int_spec a (by omega)
  have Y : ∀ z : Int, z = z := fun _ => rfl
  simp only [go_sem, ↓reduceIte, reduceCtorEq, Nat.reduceLT, Nat.reduceLeDiff, Nat.reduceEqDiff, Nat.reduceMul, Nat.reduceAdd, Nat.reduceSub, Int.reduceLE, Int.reduceLT, wD]
  refine aCall_of wknown_spec ?_
  simp only [go_sem, ↓reduceIte, reduceCtorEq, Nat.reduceLT, Nat.reduceLeDiff, Nat.reduceEqDiff, Nat.reduceMul, Nat.reduceAdd, Nat.reduceSub, Int.reduceLE, Int.reduceLT, yes, wD]
  refine aCall_of (rwide_spec a ha) ?_
  simp only [go_sem, ↓reduceIte, reduceCtorEq, Nat.reduceLT, Nat.reduceLeDiff, Nat.reduceEqDiff, Nat.reduceMul, Nat.reduceAdd, Nat.reduceSub, Int.reduceLE, Int.reduceLT, wD]
  refine aCall_of (rwide_spec b hb) ?_
  simp only [go_sem, ↓reduceIte, reduceCtorEq, Nat.reduceLT, Nat.reduceLeDiff, Nat.reduceEqDiff, Nat.reduceMul, Nat.reduceAdd, Nat.reduceSub, Int.reduceLE, Int.reduceLT, wD]
  refine ⟨by kernel_rfl, ?_⟩
  refine aCall_of (wadd_spec a b ha hb) ?_
  simp only [go_sem, ↓reduceIte, reduceCtorEq, Nat.reduceLT, Nat.reduceLeDiff, Nat.reduceEqDiff, Nat.reduceMul, Nat.reduceAdd, Nat.reduceSub, Int.reduceLE, Int.reduceLT, wAns, wD]
  refine aCall_of (wsub_spec a b ha hb) ?_
  simp only [go_sem, ↓reduceIte, reduceCtorEq, Nat.reduceLT, Nat.reduceLeDiff, Nat.reduceEqDiff, Nat.reduceMul, Nat.reduceAdd, Nat.reduceSub, Int.reduceLE, Int.reduceLT, wAns, wD]
  refine aCall_of (wneg_spec a ha) ?_
  simp only [go_sem, ↓reduceIte, reduceCtorEq, Nat.reduceLT, Nat.reduceLeDiff, Nat.reduceEqDiff, Nat.reduceMul, Nat.reduceAdd, Nat.reduceSub, Int.reduceLE, Int.reduceLT, wAns, wD]
  refine aCall_of (wabs_spec a ha) ?_
  simp only [go_sem, ↓reduceIte, reduceCtorEq, Nat.reduceLT, Nat.reduceLeDiff, Nat.reduceEqDiff, Nat.reduceMul, Nat.reduceAdd, Nat.reduceSub, Int.reduceLE, Int.reduceLT, wAns, wD]
  refine aCall_of (wtimes_spec a x ha hx) ?_
  simp only [go_sem, ↓reduceIte, reduceCtorEq, Nat.reduceLT, Nat.reduceLeDiff, Nat.reduceEqDiff, Nat.reduceMul, Nat.reduceAdd, Nat.reduceSub, Int.reduceLE, Int.reduceLT, wAns, wD]
  refine aCall_of hint ?_
  simp only [go_sem, ↓reduceIte, reduceCtorEq, Nat.reduceLT, Nat.reduceLeDiff, Nat.reduceEqDiff, Nat.reduceMul, Nat.reduceAdd, Nat.reduceSub, Int.reduceLE, Int.reduceLT, amt]
  refine aCall_of hrint ?_
  simp only [go_sem, ↓reduceIte, reduceCtorEq, Nat.reduceLT, Nat.reduceLeDiff, Nat.reduceEqDiff, Nat.reduceMul, Nat.reduceAdd, Nat.reduceSub, Int.reduceLE, Int.reduceLT, amt]
  refine aCall_of (plus_spec a b (by omega) (by omega)) ?_
  simp only [go_sem, ↓reduceIte, reduceCtorEq, Nat.reduceLT, Nat.reduceLeDiff, Nat.reduceEqDiff, Nat.reduceMul, Nat.reduceAdd, Nat.reduceSub, Int.reduceLE, Int.reduceLT, wD]
  refine aCall_of (told (a + b) (by rw [B7]; omega)) ?_
  simp only [go_sem, ↓reduceIte, reduceCtorEq, Nat.reduceLT, Nat.reduceLeDiff, Nat.reduceEqDiff, Nat.reduceMul, Nat.reduceAdd, Nat.reduceSub, Int.reduceLE, Int.reduceLT, yes]
  refine aCall_of (less_spec a b (by omega) (by omega)) ?_
  simp only [go_sem, ↓reduceIte, reduceCtorEq, Nat.reduceLT, Nat.reduceLeDiff, Nat.reduceEqDiff, Nat.reduceMul, Nat.reduceAdd, Nat.reduceSub, Int.reduceLE, Int.reduceLT, yes]
  refine aCall_of (told (a - b) (by rw [B7]; omega)) ?_
  simp only [go_sem, ↓reduceIte, reduceCtorEq, Nat.reduceLT, Nat.reduceLeDiff, Nat.reduceEqDiff, Nat.reduceMul, Nat.reduceAdd, Nat.reduceSub, Int.reduceLE, Int.reduceLT, yes]
  refine aCall_of (turned_spec a (by omega)) ?_
  simp only [go_sem, ↓reduceIte, reduceCtorEq, Nat.reduceLT, Nat.reduceLeDiff, Nat.reduceEqDiff, Nat.reduceMul, Nat.reduceAdd, Nat.reduceSub, Int.reduceLE, Int.reduceLT, yes]
  refine aCall_of (told (-a) (by rw [B7]; omega)) ?_
  simp only [go_sem, ↓reduceIte, reduceCtorEq, Nat.reduceLT, Nat.reduceLeDiff, Nat.reduceEqDiff, Nat.reduceMul, Nat.reduceAdd, Nat.reduceSub, Int.reduceLE, Int.reduceLT, yes]
  refine aCall_of (rsized_spec a (by omega)) ?_
  simp only [go_sem, ↓reduceIte, reduceCtorEq, Nat.reduceLT, Nat.reduceLeDiff, Nat.reduceEqDiff, Nat.reduceMul, Nat.reduceAdd, Nat.reduceSub, Int.reduceLE, Int.reduceLT, yes]
  refine aCall_of (told (a.natAbs : Int) (by rw [B7]; omega)) ?_
  simp only [go_sem, ↓reduceIte, reduceCtorEq, Nat.reduceLT, Nat.reduceLeDiff, Nat.reduceEqDiff, Nat.reduceMul, Nat.reduceAdd, Nat.reduceSub, Int.reduceLE, Int.reduceLT, yes]
  refine aCall_of (whole_spec x hx.1 hx.2) ?_
  simp only [go_sem, ↓reduceIte, reduceCtorEq, Nat.reduceLT, Nat.reduceLeDiff, Nat.reduceEqDiff, Nat.reduceMul, Nat.reduceAdd, Nat.reduceSub, Int.reduceLE, Int.reduceLT, yes]
  refine aCall_of (times_spec a x (by omega) (by omega)) ?_
  simp only [go_sem, ↓reduceIte, reduceCtorEq, Nat.reduceLT, Nat.reduceLeDiff, Nat.reduceEqDiff, Nat.reduceMul, Nat.reduceAdd, Nat.reduceSub, Int.reduceLE, Int.reduceLT, yes]
  refine aCall_of (told (a * x) (mul a x (by omega) (by omega))) ?_
  simp only [go_sem, ↓reduceIte, reduceCtorEq, Nat.reduceLT, Nat.reduceLeDiff, Nat.reduceEqDiff, Nat.reduceMul, Nat.reduceAdd, Nat.reduceSub, Int.reduceLE, Int.reduceLT, yes, bool_self, beq_self_eq_true]
  refine aCall_of (wmul_spec x y hx hy) ?_
  simp only [go_sem, ↓reduceIte, reduceCtorEq, Nat.reduceLT, Nat.reduceLeDiff, Nat.reduceEqDiff, Nat.reduceMul, Nat.reduceAdd, Nat.reduceSub, Int.reduceLE, Int.reduceLT, wD]
  refine aCall_of (whole_spec x hx.1 hx.2) ?_
  simp only [go_sem, ↓reduceIte, reduceCtorEq, Nat.reduceLT, Nat.reduceLeDiff, Nat.reduceEqDiff, Nat.reduceMul, Nat.reduceAdd, Nat.reduceSub, Int.reduceLE, Int.reduceLT, yes]
  refine aCall_of (whole_spec y hy.1 hy.2) ?_
  simp only [go_sem, ↓reduceIte, reduceCtorEq, Nat.reduceLT, Nat.reduceLeDiff, Nat.reduceEqDiff, Nat.reduceMul, Nat.reduceAdd, Nat.reduceSub, Int.reduceLE, Int.reduceLT, yes]
  refine aCall_of (times_spec x y (by omega) (by omega)) ?_
  simp only [go_sem, ↓reduceIte, reduceCtorEq, Nat.reduceLT, Nat.reduceLeDiff, Nat.reduceEqDiff, Nat.reduceMul, Nat.reduceAdd, Nat.reduceSub, Int.reduceLE, Int.reduceLT, yes]
  refine aCall_of tmul ?_
  simp only [go_sem, ↓reduceIte, reduceCtorEq, Nat.reduceLT, Nat.reduceLeDiff, Nat.reduceEqDiff, Nat.reduceMul, Nat.reduceAdd, Nat.reduceSub, Int.reduceLE, Int.reduceLT, yes]
  refine aCall_of (of_spec x hx) ?_
  simp only [go_sem, ↓reduceIte, reduceCtorEq, Nat.reduceLT, Nat.reduceLeDiff, Nat.reduceEqDiff, Nat.reduceMul, Nat.reduceAdd, Nat.reduceSub, Int.reduceLE, Int.reduceLT, wD]
  refine aCall_of (whole_spec x hx.1 hx.2) ?_
  simp only [go_sem, ↓reduceIte, reduceCtorEq, Nat.reduceLT, Nat.reduceLeDiff, Nat.reduceEqDiff, Nat.reduceMul, Nat.reduceAdd, Nat.reduceSub, Int.reduceLE, Int.reduceLT, yes]
  refine aCall_of tof ?_
  simp only [go_sem, ↓reduceIte, reduceCtorEq, Nat.reduceLT, Nat.reduceLeDiff, Nat.reduceEqDiff, Nat.reduceMul, Nat.reduceAdd, Nat.reduceSub, Int.reduceLE, Int.reduceLT, yes]
  refine aCall_of (wsign_spec a) ?_
  simp only [go_sem, ↓reduceIte, reduceCtorEq, Nat.reduceLT, Nat.reduceLeDiff, Nat.reduceEqDiff, Nat.reduceMul, Nat.reduceAdd, Nat.reduceSub, Int.reduceLE, Int.reduceLT]
  refine aCall_of (rsign_spec a (by omega)) ?_
  simp only [go_sem, ↓reduceIte, reduceCtorEq, Nat.reduceLT, Nat.reduceLeDiff, Nat.reduceEqDiff, Nat.reduceMul, Nat.reduceAdd, Nat.reduceSub, Int.reduceLE, Int.reduceLT, bool_self, beq_self_eq_true]
  refine aCall_of (wcmp_spec a b) ?_
  simp only [go_sem, ↓reduceIte, reduceCtorEq, Nat.reduceLT, Nat.reduceLeDiff, Nat.reduceEqDiff, Nat.reduceMul, Nat.reduceAdd, Nat.reduceSub, Int.reduceLE, Int.reduceLT]
  refine aCall_of (rcmp_spec a b (by omega) (by omega) (by omega)) ?_
  simp only [go_sem, ↓reduceIte, reduceCtorEq, Nat.reduceLT, Nat.reduceLeDiff, Nat.reduceEqDiff, Nat.reduceMul, Nat.reduceAdd, Nat.reduceSub, Int.reduceLE, Int.reduceLT, bool_self, beq_self_eq_true]
  show _ = true
  kernel_rfl
end Go.Ax
