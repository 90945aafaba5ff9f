/- A part of the proof: Sa4. -/
import Derived.Test.YtmpbhgofllbejaaSa3
set_option linter.unusedVariables false
set_option linter.unusedSimpArgs false
set_option linter.unusedSimpArgs false
namespace Go.Ax
open Go Go.Proofs
set_option maxRecDepth 100000
theorem sub_step (s b i : Nat) : ((s + b) / BB ^ i % BB < b / BB ^ i % BB + cy s b i → cy s b (i + 1) = 1 ∧ s / BB ^ i % BB = (s + b) / BB ^ i % BB + BB - (b / BB ^ i % BB + cy s b i)) ∧
    (¬ (s + b) / BB ^ i % BB < b / BB ^ i % BB + cy s b i → cy s b (i + 1) = 0 ∧ s / BB ^ i % BB = (s + b) / BB ^ i % BB - (b / BB ^ i % BB + cy s b i)) := by
  rw [add_digit_mod, cy_succ]
  have h1 := Nat.mod_lt (s / BB ^ i) BB_pos
  have h2 := Nat.mod_lt (b / BB ^ i) BB_pos
  have h3 := cy_le s b i
  generalize s / BB ^ i % BB = x at *
  generalize b / BB ^ i % BB = y at *
  generalize cy s b i = c at *
  simp only [BB] at *
  constructor <;> intro h <;> constructor <;> omega
theorem u64_wrap (x : Int) (h1 : 0 ≤ x) (h2 : x < 18446744073709551616) : IntKind.u64.wrap x = x := by
  have e1 : (2 : Int) ^ 64 = 18446744073709551616 := by decide
  simp only [IntKind.wrap, IntKind.bits, IntKind.signed, e1, Bool.false_and, Bool.false_eq_true, if_false]
  omega
theorem subSizes_spec (s b : Nat) (ha : (digs (s + b)).length < 2 ^ 40) (hb : (digs b).length < 2 ^ 40) : FSpec Try.prog 121 [(false, [.l (rowsU (digs (s + b)))]), (false, [.l (rowsU (digs b))])]
    [.one (.d (.l (rowsU (dg (digs (s + b)).length s))))] := by
  refine fspec_of aDraw (aDraw_ok mixed) Try.func121 rfl (by decide) [0, 1, 4, 5, 6, 7, 8, 9] (rs := [.tmp 4]) rfl (by decide) (n := 37) rfl (by simp) ?_
  simp (maxSteps := 2000000) only [go_sem, p_kSeq, ↓reduceIte, reduceCtorEq, Nat.reduceLT, Nat.reduceLeDiff, Nat.reduceEqDiff, Nat.reduceMul, Nat.reduceAdd, Nat.reduceSub, Int.reduceLE, Int.reduceLT]
  rw [aCode_loop]
  refine aLoop_of (α := Nat × T × T) (fun p => ⟨37, [], [(0, .one (.l (rowsU (digs (s + b))))), (1, .one (.l (rowsU (digs b)))), (4, .own 1 []), (5, .own 1 (rowsU (dg p.1 s))), (6, .one (.v (.int .u64 (cy s b p.1 : Nat)))), (7, .one (.v (.int .i64 p.1))), (8, p.2.1), (9, p.2.2)]⟩)
    (fun p => p.1 ≤ (digs (s + b)).length) (fun p => (digs (s + b)).length - p.1) (0, .none, .none) (by simp) (by simp only [cy_zero]; rfl) (fun ⟨i, t8, t9⟩ hi => ?_)
  simp only at hi
  simp (maxSteps := 2000000) only [go_sem, p_kSeq, ↓reduceIte, reduceCtorEq, Nat.reduceLT, Nat.reduceLeDiff, Nat.reduceEqDiff, Nat.reduceMul, Nat.reduceAdd, Nat.reduceSub, Int.reduceLE, Int.reduceLT]
  refine ⟨fun h1 => ⟨by omega, h1, aCall_of (digit_spec (digs b) i (by omega)) ?_⟩, fun h1 => ?_⟩
  · simp (maxSteps := 2000000) only [go_sem, p_kSeq, ↓reduceIte, reduceCtorEq, Nat.reduceLT, Nat.reduceLeDiff, Nat.reduceEqDiff, Nat.reduceMul, Nat.reduceAdd, Nat.reduceSub, Int.reduceLE, Int.reduceLT]
    have b1 := Nat.mod_lt ((s + b) / BB ^ i) BB_pos
    have b2 := Nat.mod_lt (b / BB ^ i) BB_pos
    have b3 := cy_le s b i
    have b4 := Nat.mod_lt (s / BB ^ i) BB_pos
    obtain ⟨e1, e2⟩ := sub_step s b i
    have e3 : (b / BB ^ i % BB + cy s b i) % 2 ^ 64 = b / BB ^ i % BB + cy s b i := Nat.mod_eq_of_lt (by simp only [BB] at *; omega)
    simp only [Int.toNat_natCast, digs_get, dg_len, e3]
    refine ⟨by kernel_rfl, fun h2 => ?_, fun h2 => ?_⟩
    · obtain ⟨f1, f2⟩ := e1 (by omega)
      rw [u64_wrap ((((s + b) / BB ^ i % BB : Nat) : Int) + 4294967296) (by omega) (by simp only [BB] at *; omega), u64_wrap _ (by simp only [BB] at *; omega) (by simp only [BB] at *; omega),
        show (((s + b) / BB ^ i % BB : Nat) : Int) + 4294967296 - ((b / BB ^ i % BB + cy s b i : Nat) : Int) = ((s / BB ^ i % BB : Nat) : Int) by rw [f2]; simp only [BB] at *; omega]
      refine ⟨rowsU_len1 _, by omega, by omega, Round.mk (i + 1, .one (.v (.int .u64 ((((s + b) / BB ^ i % BB : Nat) : Int) + 4294967296))), .one (.v (.int .u64 ((b / BB ^ i % BB + cy s b i : Nat) : Int)))) (by show i + 1 ≤ _; omega) (by show _ - (i + 1) < _; omega) ?_⟩
      simp only [S.shut, i64_wrap ((i : Int) + 1) (by omega) (by omega), rowsU_one, rowsU_append, ← dg_succ, f1]
      rfl
    · obtain ⟨f1, f2⟩ := e2 (by omega)
      rw [u64_wrap _ (by omega) (by simp only [BB] at *; omega),
        show (((s + b) / BB ^ i % BB : Nat) : Int) - ((b / BB ^ i % BB + cy s b i : Nat) : Int) = ((s / BB ^ i % BB : Nat) : Int) by rw [f2]; omega]
      refine ⟨rowsU_len1 _, by omega, by omega, Round.mk (i + 1, .one (.v (.int .u64 (((s + b) / BB ^ i % BB : Nat) : Int))), .one (.v (.int .u64 ((b / BB ^ i % BB + cy s b i : Nat) : Int)))) (by show i + 1 ≤ _; omega) (by show _ - (i + 1) < _; omega) ?_⟩
      simp only [S.shut, i64_wrap ((i : Int) + 1) (by omega) (by omega), rowsU_one, rowsU_append, ← dg_succ, f1]
      rfl
  · have : i = (digs (s + b)).length := by omega
    subst this
    rfl
theorem cmpSizes_spec (a b : Nat) (ha : (digs a).length < 2 ^ 40) (hb : (digs b).length < 2 ^ 40) : FSpec Try.prog 120 [(false, [.l (rowsU (digs a))]), (false, [.l (rowsU (digs b))])]
    [.one (.d (.v (.int .i64 (if a < b then -1 else if b < a then 1 else 0))))] := by
  refine fspec_of aDraw (aDraw_ok mixed) Try.func120 rfl (by decide) [0, 1, 4, 5] (rs := [.tmp 4]) rfl (by decide) (n := 41) rfl (by simp) ?_
  simp (maxSteps := 2000000) only [go_sem, p_kSeq, ↓reduceIte, reduceCtorEq, Nat.reduceLT, Nat.reduceLeDiff, Nat.reduceEqDiff, Nat.reduceMul, Nat.reduceAdd, Nat.reduceSub, Int.reduceLE, Int.reduceLT]
  rw [aCode_loop]
  have hab : (digs a).length < (digs b).length → a < b := fun h => by
    have h1 := (digs_len a (digs a).length).1 (Nat.le_refl _)
    have h2 := mt (digs_len b (digs a).length).2 (by omega)
    omega
  have hba : (digs b).length < (digs a).length → b < a := fun h => by
    have h1 := (digs_len b (digs b).length).1 (Nat.le_refl _)
    have h2 := mt (digs_len a (digs b).length).2 (by omega)
    omega
  refine ⟨fun hne => ⟨fun h1 => ?_, fun h1 => ?_⟩, fun heq => ?_⟩
  · rw [if_pos (hab (by omega))]
  · rw [if_neg (by have := hba (by omega); omega), if_pos (hba (by omega))]
  refine aLoop_of (α := Nat) (fun n => ⟨41, [], [(0, .one (.l (rowsU (digs a)))), (1, .one (.l (rowsU (digs b)))), (4, .one (.v (.int .i64 0))), (5, .one (.v (.int .i64 ((n : Int) - 1))))]⟩)
    (fun n => n ≤ (digs a).length ∧ a / BB ^ n = b / BB ^ n) (fun n => n) (digs a).length ⟨Nat.le_refl _, ?_⟩ ?_ (fun n ⟨hn, hq⟩ => ?_)
  · rw [Nat.div_eq_of_lt ((digs_len a _).1 (Nat.le_refl _)), Nat.div_eq_of_lt ((digs_len b _).1 (by omega))]
  · rw [i64_wrap _ (by omega) (by omega)]; rfl
  simp (maxSteps := 2000000) only [go_sem, p_kSeq, ↓reduceIte, reduceCtorEq, Nat.reduceLT, Nat.reduceLeDiff, Nat.reduceEqDiff, Nat.reduceMul, Nat.reduceAdd, Nat.reduceSub, Int.reduceLE, Int.reduceLT]
  refine ⟨fun h1 => ?_, fun h1 => ?_⟩
  · have e : ((n : Int) - 1).toNat = n - 1 := by omega
    simp only [e, digs_get]
    obtain ⟨m, rfl⟩ : ∃ m, n = m + 1 := ⟨n - 1, by omega⟩
    simp only [Nat.add_sub_cancel]
    rw [Nat.pow_succ, ← Nat.div_div_eq_div_mul, ← Nat.div_div_eq_div_mul] at hq
    have ea := Nat.div_add_mod (a / BB ^ m) BB
    have eb := Nat.div_add_mod (b / BB ^ m) BB
    have lt : a / BB ^ m < b / BB ^ m → a < b := fun h => by
      rcases Nat.lt_or_ge a b with h2 | h2
      · exact h2
      · have := Nat.div_le_div_right (c := BB ^ m) h2; omega
    have gt : b / BB ^ m < a / BB ^ m → b < a := fun h => by
      rcases Nat.lt_or_ge b a with h2 | h2
      · exact h2
      · have := Nat.div_le_div_right (c := BB ^ m) h2; omega
    rw [hq] at ea
    refine ⟨h1, by omega, h1, by omega, by kernel_rfl, fun h2 => ?_, fun h2 => ⟨h1, by omega, h1, by omega, by kernel_rfl, fun h3 => ?_, fun h3 => ?_⟩⟩
    · rw [if_pos (lt (by omega))]
    · have := gt (by omega)
      rw [if_neg (by omega), if_pos this]
    · refine Round.mk m ⟨by omega, by omega⟩ (by omega) ?_
      simp only [S.shut, show (((m + 1 : Nat) : Int) - 1) = (m : Int) by omega, i64_wrap ((m : Int) - 1) (by omega) (by omega)]
  · have : n = 0 := by omega
    subst this
    simp only [Nat.pow_zero, Nat.div_one] at hq
    subst hq
    simp
end Go.Ax
