/- A part of the proof: Sa3. -/
import Derived.Test.YtmpbhgofllbejaaSa2
set_option linter.unusedVariables false
set_option linter.unusedSimpArgs false
set_option linter.unusedSimpArgs false
namespace Go.Ax
open Go Go.Proofs
set_option maxRecDepth 100000
/-- The first i digits. -/
def dg (i v : Nat) : List Nat := (List.range i).map fun k => v / BB ^ k % BB
theorem dg_len (i v : Nat) : (dg i v).length = i := by simp [dg]
theorem dg_get {i v k : Nat} (h : k < i) : (dg i v)[k]?.getD 0 = v / BB ^ k % BB := by simp [dg, h]
theorem dg_succ (i v : Nat) : dg (i + 1) v = dg i v ++ [v / BB ^ i % BB] := by simp [dg, List.range_succ]
theorem dg_lt (i v : Nat) : ∀ d ∈ dg i v, d < BB := by
  intro d hd
  simp only [dg, List.mem_map] at hd
  obtain ⟨k, _, rfl⟩ := hd
  exact Nat.mod_lt _ BB_pos
theorem dg_digs {i v : Nat} (h1 : v < BB ^ i) (h2 : i = 0 ∨ BB ^ (i - 1) ≤ v) : dg i v = digs v := by
  have hl : (digs v).length = i := by
    have a := (digs_len v i).2 h1
    rcases h2 with h2 | h2
    · omega
    · rcases Nat.lt_or_ge (digs v).length i with h | h
      · have := (digs_len v (i - 1)).1 (by omega)
        omega
      · omega
  refine ext_get (by rw [dg_len, hl]) fun k hk => ?_
  rw [dg_len] at hk
  rw [dg_get hk, digs_get]
def cy (a b i : Nat) : Nat := (a % BB ^ i + b % BB ^ i) / BB ^ i
theorem pw (i : Nat) : 0 < BB ^ i := Nat.pow_pos BB_pos
theorem cy_zero (a b : Nat) : cy a b 0 = 0 := by simp [cy, Nat.mod_one]
theorem cy_le (a b i : Nat) : cy a b i ≤ 1 := by
  have h1 := Nat.mod_lt a (pw i)
  have h2 := Nat.mod_lt b (pw i)
  have : cy a b i < 2 := (Nat.div_lt_iff_lt_mul (pw i)).2 (by omega)
  omega
theorem add_digit (a b i : Nat) : (a + b) / BB ^ i = a / BB ^ i + b / BB ^ i + cy a b i := by
  have e1 := Nat.div_add_mod a (BB ^ i)
  have e2 := Nat.div_add_mod b (BB ^ i)
  have : a + b = (a % BB ^ i + b % BB ^ i) + BB ^ i * (a / BB ^ i + b / BB ^ i) := by rw [Nat.mul_add]; omega
  rw [this, Nat.add_mul_div_left _ _ (pw i)]
  unfold cy
  omega
theorem cy_succ (a b i : Nat) : cy a b (i + 1) = (a / BB ^ i % BB + b / BB ^ i % BB + cy a b i) / BB := by
  unfold cy
  rw [Nat.pow_succ, Nat.mod_mul, Nat.mod_mul (x := b), ← Nat.div_div_eq_div_mul]
  congr 1
  have : a % BB ^ i + BB ^ i * (a / BB ^ i % BB) + (b % BB ^ i + BB ^ i * (b / BB ^ i % BB)) = (a % BB ^ i + b % BB ^ i) + BB ^ i * (a / BB ^ i % BB + b / BB ^ i % BB) := by rw [Nat.mul_add]; omega
  rw [this, Nat.add_mul_div_left _ _ (pw i)]
  omega
theorem add_digit_mod (a b i : Nat) : (a + b) / BB ^ i % BB = (a / BB ^ i % BB + b / BB ^ i % BB + cy a b i) % BB := by
  rw [add_digit, Nat.add_mod, Nat.add_mod (a / BB ^ i), Nat.add_mod (a / BB ^ i % BB + b / BB ^ i % BB)]
theorem add_step (a b i : Nat) : (cy a b i + (a / BB ^ i % BB + b / BB ^ i % BB) % 2 ^ 64) % 2 ^ 64 % 2 ^ 32 = (a + b) / BB ^ i % BB ∧ (cy a b i + (a / BB ^ i % BB + b / BB ^ i % BB) % 2 ^ 64) % 2 ^ 64 / 2 ^ 32 = cy a b (i + 1) := by
  rw [add_digit_mod, cy_succ]
  have h1 := Nat.mod_lt (a / BB ^ i) BB_pos
  have h2 := Nat.mod_lt (b / BB ^ i) BB_pos
  have h3 := cy_le a b i
  generalize a / BB ^ i % BB = x at *
  generalize b / BB ^ i % BB = y at *
  generalize cy a b i = c at *
  simp only [BB] at *
  omega
theorem add_more (a b i : Nat) (hi : i ≤ max (digs a).length (digs b).length + 1) (h : i < (digs a).length ∨ i < (digs b).length ∨ 0 < cy a b i) : BB ^ i ≤ a + b ∧ i ≤ max (digs a).length (digs b).length := by
  have h1 : BB ^ i ≤ a + b := by
    rcases h with h | h | h
    · have := mt (digs_len a i).2 (by omega); omega
    · have := mt (digs_len b i).2 (by omega); omega
    · have := (Nat.div_pos_iff.1 h).2
      have h3 := Nat.mod_le a (BB ^ i)
      have h4 := Nat.mod_le b (BB ^ i)
      omega
  refine ⟨h1, ?_⟩
  rcases Nat.lt_or_ge (max (digs a).length (digs b).length) i with hlt | hge
  · exfalso
    obtain ⟨k, rfl⟩ : ∃ k, i = k + 1 := ⟨i - 1, by omega⟩
    have ha := (digs_len a k).1 (by omega)
    have hb := (digs_len b k).1 (by omega)
    rw [Nat.pow_succ] at h1
    have : 2 * BB ^ k ≤ BB ^ k * BB := by rw [Nat.mul_comm]; exact Nat.mul_le_mul_left _ (by decide)
    omega
  · exact hge
theorem rowsU_len1 (d : Nat) : (∀ r ∈ [[D.v (.int .u64 (d : Int))]], r.length = 1) := by simp
theorem addSizes_spec (a b : Nat) (ha : (digs a).length < 2 ^ 40) (hb : (digs b).length < 2 ^ 40) : FSpec Try.prog 119 [(false, [.l (rowsU (digs a))]), (false, [.l (rowsU (digs b))])]
    [.one (.d (.l (rowsU (digs (a + b)))))] := by
  refine fspec_of aDraw (aDraw_ok mixed) Try.func119 rfl (by decide) [0, 1, 4, 5, 6, 7] (rs := [.tmp 4]) rfl (by decide) (n := 41) rfl (by simp) ?_
  simp (maxSteps := 2000000) only [go_sem, p_kSeq, ↓reduceIte, reduceCtorEq, Nat.reduceLT, Nat.reduceLeDiff, Nat.reduceEqDiff, Nat.reduceMul, Nat.reduceAdd, Nat.reduceSub, Int.reduceLE, Int.reduceLT]
  rw [aCode_loop]
  refine aLoop_of (α := Nat) (fun i => ⟨41, [], [(0, .one (.l (rowsU (digs a)))), (1, .one (.l (rowsU (digs b)))), (4, .own 1 []), (5, .own 1 (rowsU (dg i (a + b)))), (6, .one (.v (.int .u64 (cy a b i : Nat)))), (7, .one (.v (.int .i64 i)))]⟩)
    (fun i => i ≤ max (digs a).length (digs b).length + 1 ∧ (i = 0 ∨ BB ^ (i - 1) ≤ a + b)) (fun i => max (digs a).length (digs b).length + 1 - i) 0 ⟨by omega, .inl rfl⟩ (by rw [cy_zero]; rfl) (fun i ⟨hi, hbi⟩ => ?_)
  simp (maxSteps := 2000000) only [go_sem, p_kSeq, ↓reduceIte, reduceCtorEq, Nat.reduceLT, Nat.reduceLeDiff, Nat.reduceEqDiff, Nat.reduceMul, Nat.reduceAdd, Nat.reduceSub, Int.reduceLE, Int.reduceLT]
  have hm := add_more a b i hi
  refine ⟨fun h1 => ⟨fun h2 => ⟨fun h3 => ?_, fun h3 => ?_⟩, fun h2 => ?_⟩, fun h1 => ?_⟩
  case refine_2 =>
    have h4 := (digs_len a i).1 (by omega)
    have h5 := (digs_len b i).1 (by omega)
    have h6 : a + b < BB ^ i := by
      have h7 : cy a b i = 0 := by omega
      unfold cy at h7
      rw [Nat.mod_eq_of_lt h4, Nat.mod_eq_of_lt h5, Nat.div_eq_zero_iff] at h7
      have := pw i
      omega
    rw [dg_digs h6 hbi]
  all_goals
    obtain ⟨h4, h5⟩ := hm (by omega)
    refine aCall_of (digit_spec (digs a) i (by omega)) ?_
    simp (maxSteps := 2000000) only [go_sem, p_kSeq, ↓reduceIte, reduceCtorEq, Nat.reduceLT, Nat.reduceLeDiff, Nat.reduceEqDiff, Nat.reduceMul, Nat.reduceAdd, Nat.reduceSub, Int.reduceLE, Int.reduceLT]
    refine aCall_of (digit_spec (digs b) i (by omega)) ?_
    simp (maxSteps := 2000000) only [go_sem, p_kSeq, ↓reduceIte, reduceCtorEq, Nat.reduceLT, Nat.reduceLeDiff, Nat.reduceEqDiff, Nat.reduceMul, Nat.reduceAdd, Nat.reduceSub, Int.reduceLE, Int.reduceLT]
    simp only [Int.toNat_natCast, digs_get, (add_step a b i).1, (add_step a b i).2, dg_len]
    refine ⟨rowsU_len1 _, by omega, by omega, Round.mk (i + 1) ⟨by omega, .inr (by simpa using h4)⟩ (by omega) ?_⟩
    simp only [S.shut, i64_wrap ((i : Int) + 1) (by omega) (by omega), rowsU_one, rowsU_append, ← dg_succ]
    rfl
end Go.Ax
