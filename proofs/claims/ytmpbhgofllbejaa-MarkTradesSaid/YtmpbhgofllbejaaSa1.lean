/- A part of the proof: Sa1. -/
import Derived.Test.YtmpbhgofllbejaaLibE
import Derived.Test.YtmpbhgofllbejaaFa
set_option linter.unusedVariables false
set_option linter.unusedSimpArgs false
set_option linter.unusedSimpArgs false
namespace Go.Ax
open Go Go.Proofs
set_option maxRecDepth 100000
theorem digit_spec (ds : List Nat) (i : Int) (h0 : 0 ≤ i) : FSpec Try.prog 118 [(false, [.l (rowsU ds)]), (false, [.v (.int .i64 i)])]
    [.one (.d (.v (.int .u64 ((ds[i.toNat]?.getD 0 : Nat) : Int))))] := by
  refine fspec_of aDraw (aDraw_ok mixed) Try.func118 rfl (by decide) [0, 1, 4] (rs := [.tmp 4]) rfl (by decide) (n := 13) rfl (by simp) ?_
  simp (maxSteps := 2000000) only [go_sem, p_kSeq, ↓reduceIte, reduceCtorEq, Nat.reduceLT, Nat.reduceLeDiff, Nat.reduceEqDiff, Nat.reduceMul, Nat.reduceAdd, Nat.reduceSub, Int.reduceLE, Int.reduceLT]
  refine ⟨fun h => ⟨h0, h⟩, fun h => ?_⟩
  rw [List.getElem?_eq_none (by omega)]
  rfl

theorem trim_spec (ds : List Nat) (hd : ∀ d ∈ ds, d < BB) (hl : ds.length < 2 ^ 40) : FSpec Try.prog 142 [(false, [.l (rowsU ds)])]
    [.one (.d (.l (rowsU (digs (valU ds)))))] := by
  refine fspec_of aDraw (aDraw_ok mixed) Try.func142 rfl (by decide) [0, 2, 3] (rs := [.tmp 2]) rfl (by decide) (n := 22) rfl (by simp) ?_
  simp (maxSteps := 2000000) only [go_sem, p_kSeq, ↓reduceIte, reduceCtorEq, Nat.reduceLT, Nat.reduceLeDiff, Nat.reduceEqDiff, Nat.reduceMul, Nat.reduceAdd, Nat.reduceSub, Int.reduceLE, Int.reduceLT]
  rw [aCode_loop]
  refine aLoop_of (α := Nat) (fun n => ⟨22, [], [(0, .one (.l (rowsU ds))), (2, .own 1 []), (3, .one (.v (.int .i64 n)))]⟩)
    (fun n => n ≤ ds.length ∧ ∀ k, n ≤ k → ds[k]?.getD 0 = 0) (fun n => n) ds.length ⟨Nat.le_refl _, fun k hk => by rw [List.getElem?_eq_none hk]; rfl⟩ rfl (fun n ⟨hn, h0⟩ => ?_)
  simp (maxSteps := 2000000) only [go_sem, p_kSeq, ↓reduceIte, reduceCtorEq, Nat.reduceLT, Nat.reduceLeDiff, Nat.reduceEqDiff, Nat.reduceMul, Nat.reduceAdd, Nat.reduceSub, Int.reduceLE, Int.reduceLT]
  refine ⟨fun h => ?_, fun h => ?_⟩
  · rw [i64_wrap _ (by omega) (by omega)]
    refine ⟨by omega, by omega, fun hz => ?_, fun hz => ?_⟩
    · have e : ((n : Int) - 1).toNat = n - 1 := by omega
      refine Round.mk (n - 1) ⟨by omega, fun k hk => ?_⟩ (by omega) ?_
      · by_cases hkn : k = n - 1
        · subst hkn; rw [e] at hz; omega
        · exact h0 k (by omega)
      · simp only [S.shut, show ((n : Int) - 1) = ((n - 1 : Nat) : Int) by omega]
    · refine ⟨0, n, n, rfl, rfl, ⟨rfl, hn⟩, by omega, by omega, ?_⟩
      have e : ((n : Int) - 1).toNat = n - 1 := by omega
      rw [e] at hz
      rw [trim_digs hd hn h0 (.inr (by omega))]
      rfl
  · have : n = 0 := by omega
    subst this
    refine ⟨0, 0, 0, rfl, rfl, ⟨rfl, hn⟩, by omega, by omega, ?_⟩
    rw [trim_digs hd hn h0 (.inl rfl)]
    rfl
theorem digs_small (u : Nat) (hu : u < 2 ^ 64) : valU [u % 2 ^ 32, u / 2 ^ 32] = u ∧ ∀ d ∈ [u % 2 ^ 32, u / 2 ^ 32], d < BB := by
  refine ⟨?_, ?_⟩
  · simp only [valU, BB]; omega
  · simp only [BB, List.mem_cons, List.not_mem_nil, or_false]
    rintro d (rfl | rfl) <;> omega
theorem size_spec (u : Nat) (hu : u < 2 ^ 64) : FSpec Try.prog 117 [(false, [.v (.int .u64 (u : Int))])] [.one (.d (.l (rowsU (digs u))))] := by
  refine fspec_of aDraw (aDraw_ok mixed) Try.func117 rfl (by decide) [0, 2] (rs := [.tmp 2]) rfl (by decide) (n := 9) rfl (by simp) ?_
  have ht := trim_spec [u % 2 ^ 32, u / 2 ^ 32] (digs_small u hu).2 (by simp)
  rw [(digs_small u hu).1] at ht
  simp (maxSteps := 2000000) only [go_sem, p_kSeq, ↓reduceIte, reduceCtorEq, Nat.reduceLT, Nat.reduceLeDiff, Nat.reduceEqDiff, Nat.reduceMul, Nat.reduceAdd, Nat.reduceSub, Int.reduceLE, Int.reduceLT]
  refine aCall_of ht ?_
  simp (maxSteps := 2000000) only [go_sem, p_kSeq, ↓reduceIte, reduceCtorEq, Nat.reduceLT, Nat.reduceLeDiff, Nat.reduceEqDiff, Nat.reduceMul, Nat.reduceAdd, Nat.reduceSub, Int.reduceLE, Int.reduceLT]
end Go.Ax
