/- The reference's half and Over. -/
import Derived.Test.YtmpbhgofllbejaaSd4
set_option linter.unusedVariables false
set_option linter.unusedSimpArgs false
set_option linter.unusedSimpArgs false
set_option linter.unusedVariables false
namespace Go.Ax
open Go Go.Proofs
set_option maxRecDepth 100000
/-- The digits of v from place i on, of L. -/
def hf (L i v : Nat) : List Nat := (List.range L).map fun k => if k < i then 0 else v / BB ^ k % BB
theorem hf_len (L i v : Nat) : (hf L i v).length = L := by simp [hf]
theorem hf_zero (L v : Nat) : hf L 0 v = dg L v := by simp [hf, dg]
theorem hf_all (L v : Nat) : hf L L v = List.replicate L 0 := by
  refine ext_get (by simp [hf]) fun k hk => ?_
  rw [hf_len] at hk
  simp [hf, hk]
theorem hf_set {L i v : Nat} (h : i < L) : (hf L (i + 1) v).set i (v / BB ^ i % BB) = hf L i v := by
  refine List.ext_getElem (by simp [hf]) fun k h1 h2 => ?_
  rw [List.getElem_set]
  simp only [hf, List.getElem_map, List.getElem_range]
  by_cases hk : i = k
  · subst hk; simp
  · rw [if_neg hk]
    by_cases h3 : k < i
    · rw [if_pos (by omega), if_pos h3]
    · rw [if_neg (by omega), if_neg h3]
theorem bits_or_comm (a b : Int) : Go.bits .or .u64 a b = Go.bits .or .u64 b a := by
  show IntKind.u64.wrap ((BitVec.ofInt 64 a ||| BitVec.ofInt 64 b).toNat : Int) = IntKind.u64.wrap ((BitVec.ofInt 64 b ||| BitVec.ofInt 64 a).toNat : Int)
  rw [BitVec.or_comm]
theorem and1_u64 (a : Nat) : Go.bits .and .u64 (a : Int) 1 = ((a % 2 : Nat) : Int) := by
  have h : (BitVec.ofInt 64 (a : Int) &&& BitVec.ofInt 64 1).toNat = a % 2 := by
    rw [BitVec.toNat_and]
    have h1 : (BitVec.ofInt 64 (a : Int)).toNat = a % 2 ^ 64 := by simp [BitVec.toNat_ofInt]
    have h2 : (BitVec.ofInt 64 1).toNat = 1 := by decide
    rw [h1, h2, Nat.and_one_is_mod]
    omega
  show IntKind.u64.wrap ((BitVec.ofInt 64 (a : Int) &&& BitVec.ofInt 64 1).toNat : Int) = _
  rw [h, wrap_u64]
  congr 1
  omega
theorem half_step (n i : Nat) (h : 0 < i) : (n / BB ^ (i - 1) % BB + 2 ^ 32 * (n / BB ^ i % 2)) / 2 = n / 2 / BB ^ (i - 1) % BB ∧ (n / BB ^ (i - 1) % BB + 2 ^ 32 * (n / BB ^ i % 2)) % 2 = n / BB ^ (i - 1) % 2 := by
  have e1 : n / BB ^ i = n / BB ^ (i - 1) / BB := by
    rw [Nat.div_div_eq_div_mul, ← Nat.pow_succ, show (i - 1).succ = i by omega]
  have e2 : n / 2 / BB ^ (i - 1) = n / BB ^ (i - 1) / 2 := by
    rw [Nat.div_div_eq_div_mul, Nat.mul_comm, ← Nat.div_div_eq_div_mul]
  rw [e1, e2]
  generalize n / BB ^ (i - 1) = m
  simp only [BB]
  omega
end Go.Ax
