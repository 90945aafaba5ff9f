/- The reference's half and Over. -/
import Derived.Test.YtoojnlkkmppjiaaSd4
set_option linter.unusedVariables false
set_option linter.unusedSimpArgs false
set_option linter.unusedSimpArgs false
set_option linter.unusedVariables false
namespace Go.Ax
open Go Go.Proofs
set_option maxRecDepth 100000
/-- The digits of v from place i on, of L. -/
def hf (L i v : Nat) : List Nat := (List.range L).map fun k => if k < i then 0 else v / BB ^ k % BB
theorem hf_len (L i v : Nat) : (hf L i v).length = L := by simp [hf]
theorem hf_zero (L v : Nat) : hf L 0 v = dg L v := by simp [hf, dg]
theorem hf_all (L v : Nat) : hf L L v = List.replicate L 0 := by
  refine ext_get (by simp [hf]) fun k hk => ?_
  rw [hf_len] at hk
  simp [hf, hk]
theorem hf_set {L i v : Nat} (h : i < L) : (hf L (i + 1) v).set i (v / BB ^ i % BB) = hf L i v := by
  refine List.ext_getElem (by simp [hf]) fun k h1 h2 => ?_
  rw [List.getElem_set]
  simp only [hf, List.getElem_map, List.getElem_range]
  by_cases hk : i = k
  · subst hk; simp
  · rw [if_neg hk]
    by_cases h3 : k < i
    · rw [if_pos (by omega), if_pos h3]
    · rw [if_neg (by omega), if_neg h3]
theorem bits_or_comm (a b : Int) : Go.bits .or .u64 a b = Go.bits .or .u64 b a := by
  show IntKind.u64.wrap ((BitVec.ofInt 64 a ||| BitVec.ofInt 64 b).toNat : Int) = IntKind.u64.wrap ((BitVec.ofInt 64 b ||| BitVec.ofInt 64 a).toNat : Int)
  rw [BitVec.or_comm]
theorem and1_u64 (a : Nat) : Go.bits .and .u64 (a : Int) 1 = ((a % 2 : Nat) : Int) := by
  have h : (BitVec.ofInt 64 (a : Int) &&& BitVec.ofInt 64 1).toNat = a % 2 := by
    rw [BitVec.toNat_and]
    have h1 : (BitVec.ofInt 64 (a : Int)).toNat = a % 2 ^ 64 := by simp [BitVec.toNat_ofInt]
    have h2 : (BitVec.ofInt 64 1).toNat = 1 := by decide
    rw [h1, h2, Nat.and_one_is_mod]
    omega
  show IntKind.u64.wrap ((BitVec.ofInt 64 (a : Int) &&& BitVec.ofInt 64 1).toNat : Int) = _
  rw [h, wrap_u64]
  congr 1
  omega
theorem half_step (n i : Nat) (h : 0 < i) : (n / BB ^ (i - 1) % BB + 2 ^ 32 * (n / BB ^ i % 2)) / 2 = n / 2 / BB ^ (i - 1) % BB ∧ (n / BB ^ (i - 1) % BB + 2 ^ 32 * (n / BB ^ i % 2)) % 2 = n / BB ^ (i - 1) % 2 := by
  have e1 : n / BB ^ i = n / BB ^ (i - 1) / BB := by
    rw [Nat.div_div_eq_div_mul, ← Nat.pow_succ, show (i - 1).succ = i by omega]
  have e2 : n / 2 / BB ^ (i - 1) = n / BB ^ (i - 1) / 2 := by
    rw [Nat.div_div_eq_div_mul, Nat.mul_comm, ← Nat.div_div_eq_div_mul]
  rw [e1, e2]
  generalize n / BB ^ (i - 1) = m
  simp only [BB]
  omega
theorem half_spec (n : Nat) (hl : (digs n).length < 2 ^ 30) : FSpec Try.prog 62 [(false, [.l (rowsU (digs n))])] [.one (.d (.l (rowsU (digs (n / 2))))), .one (.d (.v (.int .u64 ((n % 2 : Nat) : Int))))] := by
  refine fspec_of aDraw (aDraw_ok mixed) Try.func62 rfl (by decide) [0, 2, 3, 4, 5, 6, 7] (rs := [.tmp 2, .tmp 3]) rfl (by decide) (n := 35) rfl (by simp) ?_
  simp only [go_sem, ↓reduceIte, reduceCtorEq, Nat.reduceLT, Nat.reduceLeDiff, Nat.reduceEqDiff, Nat.reduceMul, Nat.reduceAdd, Nat.reduceSub, Int.reduceLE, Int.reduceLT]
  refine ⟨by omega, by omega, by omega, ?_⟩
  rw [aCode_loop]
  refine aLoop_of (α := Nat × T) (fun p => ⟨35, [], [(0, .one (.l (rowsU (digs n)))), (2, .own 1 []), (3, .one (.v (.int .u64 0))), (4, .own 1 (rowsU (hf (digs n).length p.1 (n / 2)))), (5, .one (.v (.int .u64 ((n / BB ^ p.1 % 2 : Nat) : Int)))), (6, .one (.v (.int .i64 ((p.1 : Int) - 1)))), (7, p.2)]⟩)
    (fun p => p.1 ≤ (digs n).length) (fun p => p.1) ((digs n).length, .none) (Nat.le_refl _) ?_ (fun ⟨i, t7⟩ g1 => ?_)
  · have h0 : n / BB ^ (digs n).length = 0 := Nat.div_eq_of_lt ((digs_len n _).1 (Nat.le_refl _))
    simp only [S.shut, h0, i64_wrap (((digs n).length : Int) - 1) (by omega) (by omega), Int.toNat_natCast, hf_all]
    rfl
  simp only at g1
  simp only [go_sem, ↓reduceIte, reduceCtorEq, Nat.reduceLT, Nat.reduceLeDiff, Nat.reduceEqDiff, Nat.reduceMul, Nat.reduceAdd, Nat.reduceSub, Int.reduceLE, Int.reduceLT]
  refine ⟨fun h => ?_, fun h => ?_⟩
  · have e : ((i : Int) - 1).toNat = i - 1 := by omega
    have hb0 := Nat.mod_lt (n / BB ^ (i - 1)) BB_pos
    obtain ⟨s1, s2⟩ := half_step n i (by omega)
    have hset := hf_set (L := (digs n).length) (i := i - 1) (v := n / 2) (by omega)
    rw [show i - 1 + 1 = i by omega] at hset
    have ho := or32_u64 (n / BB ^ (i - 1) % BB) (n / BB ^ i % 2) (by simp only [BB] at *; omega) (by omega)
    rw [hf_len, e]
    refine ⟨h, by omega, h, by omega, by omega, by omega, ?_⟩
    refine Round.mk (i - 1, .one (.v (.int .u64 ((n / BB ^ (i - 1) % BB + 2 ^ 32 * (n / BB ^ i % 2) : Nat) : Int)))) (by show i - 1 ≤ _; omega) (by show i - 1 < i; omega) ?_
    have esh : ((n / BB ^ (i - 1) % BB + 2 ^ 32 * (n / BB ^ i % 2) : Nat) : Int).fdiv (2 ^ min (Int.toNat 1) 64) = ((n / 2 / BB ^ (i - 1) % BB : Nat) : Int) := by
      rw [← s1, show min (Int.toNat 1) 64 = 1 by decide, Int.fdiv_eq_ediv_of_nonneg _ (by decide)]
      omega
    simp only [S.shut, digs_get, bits_or_comm, ho, and1_u64, s2, esh, rowsU_set, hset, i64_wrap ((i : Int) - 1 - 1) (by omega) (by omega), show ((i - 1 : Nat) : Int) - 1 = (i : Int) - 1 - 1 by omega]
  · have e0 : i = 0 := by omega
    subst e0
    rw [hf_zero]
    have hv : n / 2 < BB ^ (digs n).length := by have := (digs_len n _).1 (Nat.le_refl _); omega
    have ht := trim_spec (dg (digs n).length (n / 2)) (dg_lt _ _) (by rw [dg_len]; omega)
    rw [valU_dg hv] at ht
    refine aCall_of ht ?_
    simp only [go_sem, ↓reduceIte, reduceCtorEq, Nat.reduceLT, Nat.reduceLeDiff, Nat.reduceEqDiff, Nat.reduceMul, Nat.reduceAdd, Nat.reduceSub, Int.reduceLE, Int.reduceLT, Nat.pow_zero, Nat.div_one]
end Go.Ax
