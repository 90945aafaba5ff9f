/- The reference's Over: a quotient rounded down, and the rest. -/
import Derived.Test.YtoojnlkkmppjiaaSd5
set_option linter.unusedVariables false
set_option linter.unusedSimpArgs false
set_option linter.unusedSimpArgs false
set_option linter.unusedVariables false
namespace Go.Ax
open Go Go.Proofs
set_option maxRecDepth 100000
/-- The k lowest bits of n. -/
def btl (k n : Nat) : List Nat := (List.range k).map fun j => n / 2 ^ j % 2
theorem btl_len (k n : Nat) : (btl k n).length = k := by simp [btl]
theorem btl_succ (k n : Nat) : btl (k + 1) n = btl k n ++ [n / 2 ^ k % 2] := by simp [btl, List.range_succ]
theorem btl_get {k n j : Nat} (h : j < k) : (btl k n)[j]?.getD 0 = n / 2 ^ j % 2 := by simp [btl, h]
theorem len0 (n : Nat) : (digs n).length = 0 ↔ n = 0 := by
  have := digs_len n 0
  simp only [Nat.pow_zero] at this
  omega
theorem small_len {z : Int} {L X : Nat} (hX : BB ^ L = X) (h : z.natAbs < X * 4294967296) : (digs z.natAbs).length ≤ L + 1 := by
  refine (digs_len _ _).2 ?_
  rw [Nat.pow_succ, hX]
  exact h
theorem ed_unique {M d q r : Int} (hd : 0 < d) (h : M = d * q + r) (h1 : 0 ≤ r) (h2 : r < d) : M / d = q ∧ M % d = r := (Int.ediv_emod_unique hd).2 ⟨by omega, h1, h2⟩
theorem over_step {m d Q R bit : Int} (hd : 0 < d) (hQ : m / d = Q) (hR : m % d = R) (hb : 0 ≤ bit ∧ bit ≤ 1) : (d ≤ R + R + bit → (2 * m + bit) / d = Q + Q + 1 ∧ (2 * m + bit) % d = R + R + bit - d) ∧ (¬ d ≤ R + R + bit → (2 * m + bit) / d = Q + Q ∧ (2 * m + bit) % d = R + R + bit) := by
  have e := Int.mul_ediv_add_emod m d
  have r1 := Int.emod_nonneg m (by omega : d ≠ 0)
  have r2 := Int.emod_lt_of_pos m hd
  rw [hQ, hR] at e
  rw [hR] at r1 r2
  refine ⟨fun h => ed_unique hd ?_ (by omega) (by omega), fun h => ed_unique hd ?_ (by omega) (by omega)⟩
  · rw [Int.mul_add, Int.mul_add, Int.mul_one]; omega
  · rw [Int.mul_add]; omega
def bx (first : Bool) (z : Int) : List Leaf := match first with
  | true => [.d (.v (.bool false)), .own 0 []]
  | false => [.d (.v (.bool (decide (z < 0)))), .d (.l (rowsU (digs z.natAbs)))]
theorem over_spec (a d : Int) (hd : 0 < d) (L : Nat) (hL : L < 2 ^ 19) (ha : a.natAbs < BB ^ L) (hdl : d.natAbs < BB ^ L) : FSpec Try.prog 47 [(true, bigDs a), (true, bigDs d)] [.agg (bigDs (a / d)), .agg (bigDs (a % d))] := by
  refine fspec_of aDraw (aDraw_ok mixed) Try.func47 rfl (by decide) [0, 1, 2, 3, 4, 5, 6, 7, 8, 9, 10, 11, 12] (rs := [.cell 4 25, .cell 5 25]) rfl (by decide) (n := 77) rfl (by simp) ?_
  have hlen : ∀ k, a.natAbs / 2 ^ k ≠ 0 → k < 2 ^ 26 := by
    intro k hk
    have h1 : 2 ^ k ≤ a.natAbs := by
      rcases Nat.lt_or_ge a.natAbs (2 ^ k) with h | h
      · exact absurd (Nat.div_eq_of_lt h) hk
      · exact h
    have h2 : 2 ^ k < 2 ^ (32 * L) := by
      have : BB ^ L = 2 ^ (32 * L) := by rw [Nat.pow_mul]; rfl
      omega
    have := (Nat.pow_lt_pow_iff_right (by decide : 1 < 2)).1 h2
    omega
  generalize hX : BB ^ L = X at *
  have hX1 : 1 ≤ X := by rw [← hX]; exact Nat.pow_pos BB_pos
  have la : (digs a.natAbs).length ≤ L := (digs_len _ _).2 (by rw [hX]; exact ha)
  have ld : (digs d.natAbs).length ≤ L := (digs_len _ _).2 (by rw [hX]; exact hdl)
  simp only [go_sem, ↓reduceIte, reduceCtorEq, Nat.reduceLT, Nat.reduceLeDiff, Nat.reduceEqDiff, Nat.reduceMul, Nat.reduceAdd, Nat.reduceSub, Int.reduceLE, Int.reduceLT]
  rw [aCode_loop]
  refine aLoop_of (α := Nat × T × T) (fun p => ⟨77, [], [(0, .agg (bigDs a)), (1, .agg (bigDs d)), (2, .box ((bigDs a).map .d)), (3, .box ((bigDs d).map .d)), (4, .box [.d (.v (.bool false)), .own 0 []]), (5, .box [.d (.v (.bool false)), .own 0 []]), (6, .own 1 (rowsU (btl p.1 a.natAbs))), (7, .one (.l (rowsU (digs (a.natAbs / 2 ^ p.1))))), (8, p.2.1), (9, p.2.2), (10, .none), (11, .none), (12, .none)]⟩)
    (fun p => p.1 ≤ 2 ^ 26) (fun p => a.natAbs / 2 ^ p.1) (0, .none, .none) (Nat.zero_le _) ?_ (fun ⟨k, t8, t9⟩ g1 => ?_)
  · simp only [Nat.pow_zero, Nat.div_one]
    rfl
  simp only at g1
  simp only [go_sem, ↓reduceIte, reduceCtorEq, Nat.reduceLT, Nat.reduceLeDiff, Nat.reduceEqDiff, Nat.reduceMul, Nat.reduceAdd, Nat.reduceSub, Int.reduceLE, Int.reduceLT, bigDs]
  refine ⟨fun h => ?_, fun h => ?_⟩
  · have hne : a.natAbs / 2 ^ k ≠ 0 := fun e => by rw [(len0 _).2 e] at h; omega
    have hk := hlen k hne
    have hh := half_spec (a.natAbs / 2 ^ k) (by
      have : a.natAbs / 2 ^ k ≤ a.natAbs := Nat.div_le_self _ _
      have : (digs (a.natAbs / 2 ^ k)).length ≤ L := (digs_len _ _).2 (by rw [hX]; omega)
      omega)
    rw [Nat.div_div_eq_div_mul, ← Nat.pow_succ] at hh
    refine aCall_of hh ?_
    simp only [go_sem, ↓reduceIte, reduceCtorEq, Nat.reduceLT, Nat.reduceLeDiff, Nat.reduceEqDiff, Nat.reduceMul, Nat.reduceAdd, Nat.reduceSub, Int.reduceLE, Int.reduceLT]
    rw [btl_len]
    refine ⟨by simp, by omega, by omega, ?_⟩
    refine Round.mk (k + 1, .one (.l (rowsU (digs (a.natAbs / 2 ^ (k + 1))))), .one (.v (.int .u64 ((a.natAbs / 2 ^ k % 2 : Nat) : Int)))) (by show k + 1 ≤ _; omega) (by
      show a.natAbs / 2 ^ (k + 1) < a.natAbs / 2 ^ k
      rw [Nat.pow_succ, ← Nat.div_div_eq_div_mul]
      exact Nat.div_lt_self (Nat.pos_of_ne_zero hne) (by decide)) ?_
    simp only [S.shut, rowsU_one, rowsU_append, btl_succ]
  · have hz : a.natAbs / 2 ^ k = 0 := (len0 _).1 (by omega)
    rw [btl_len, i64_wrap ((k : Int) - 1) (by omega) (by omega), aCode_loop]
    have mpos : ∀ i, 0 ≤ ((a.natAbs / 2 ^ i : Nat) : Int) ∧ ((a.natAbs / 2 ^ i : Nat) : Int) < X := fun i => ⟨Int.natCast_nonneg _, Int.ofNat_lt.2 (Nat.lt_of_le_of_lt (Nat.div_le_self _ _) ha)⟩
    refine aLoop_of (α := Nat × Bool) (fun p => ⟨77, [], [(0, .agg (bigDs a)), (1, .agg (bigDs d)), (2, .box ((bigDs a).map .d)), (3, .box ((bigDs d).map .d)), (4, .box [.d (.v (.bool false)), .own 0 []]), (5, .box [.d (.v (.bool false)), .own 0 []]), (6, .own 1 (rowsU (btl k a.natAbs))), (7, .one (.l (rowsU (digs (a.natAbs / 2 ^ k))))), (8, t8), (9, t9), (10, .box (bx p.2 (((a.natAbs / 2 ^ p.1 : Nat) : Int) / d))), (11, .box (bx p.2 (((a.natAbs / 2 ^ p.1 : Nat) : Int) % d))), (12, .one (.v (.int .i64 ((p.1 : Int) - 1))))]⟩)
      (fun p => p.1 ≤ k ∧ (p.2 = true → a.natAbs / 2 ^ p.1 = 0)) (fun p => p.1) (k, true) ⟨Nat.le_refl _, fun _ => hz⟩ rfl (fun ⟨i, first⟩ ⟨g2, g3⟩ => ?_)
    simp only at g2 g3
    have hm := mpos i
    have e := Int.mul_ediv_add_emod ((a.natAbs / 2 ^ i : Nat) : Int) d
    have r1 := Int.emod_nonneg ((a.natAbs / 2 ^ i : Nat) : Int) (by omega : d ≠ 0)
    have r2 := Int.emod_lt_of_pos ((a.natAbs / 2 ^ i : Nat) : Int) hd
    have q1 := Int.ediv_nonneg hm.1 (by omega : 0 ≤ d)
    have q2 := Int.ediv_le_self d hm.1
    generalize hQ : ((a.natAbs / 2 ^ i : Nat) : Int) / d = Q at *
    generalize hR : ((a.natAbs / 2 ^ i : Nat) : Int) % d = R at *
    have lenQ : ∀ z : Int, z.natAbs < X * 4294967296 → (digs z.natAbs).length < 2 ^ 39 := fun z h => by
      have := small_len hX h
      omega
    generalize hM : ((a.natAbs / 2 ^ i : Nat) : Int) = M at *
    have w1 := whole_spec 1 (by omega) (by omega)
    have pQ := plus_spec Q Q (lenQ _ (by omega)) (lenQ _ (by omega))
    have pR := plus_spec R R (lenQ _ (by omega)) (lenQ _ (by omega))
    have zero : first = true → Q = 0 ∧ R = 0 := fun h => by
      have h0 := g3 h
      rw [h0] at hM
      have hM0 : M = 0 := by omega
      rw [hM0] at e hQ hR
      simp at hQ hR
      omega
    cases first
    · simp only [go_sem, ↓reduceIte, reduceCtorEq, Nat.reduceLT, Nat.reduceLeDiff, Nat.reduceEqDiff, Nat.reduceMul, Nat.reduceAdd, Nat.reduceSub, Int.reduceLE, Int.reduceLT, bigDs, bx]
      refine ⟨fun h5 => ?_, fun h5 => ?_⟩
      · refine aCall_of pQ ?_
        simp only [go_sem, ↓reduceIte, reduceCtorEq, Nat.reduceLT, Nat.reduceLeDiff, Nat.reduceEqDiff, Nat.reduceMul, Nat.reduceAdd, Nat.reduceSub, Int.reduceLE, Int.reduceLT]
        refine aCall_of pR ?_
        simp only [go_sem, ↓reduceIte, reduceCtorEq, Nat.reduceLT, Nat.reduceLeDiff, Nat.reduceEqDiff, Nat.reduceMul, Nat.reduceAdd, Nat.reduceSub, Int.reduceLE, Int.reduceLT]
        have e1 : ((i : Int) - 1).toNat = i - 1 := by omega
        have e2 : a.natAbs / 2 ^ (i - 1) / 2 = a.natAbs / 2 ^ i := by
          rw [Nat.div_div_eq_div_mul, ← Nat.pow_succ, show (i - 1).succ = i by omega]
        rw [btl_len, e1, btl_get (by omega)]
        generalize hn : a.natAbs / 2 ^ (i - 1) = N at *
        refine ⟨by kernel_rfl, h5, by omega, by omega, fun h6 => ?_, fun h6 => ?_⟩
        · have e3 : N % 2 = 1 := by omega
          refine aCall_of w1 ?_
          simp only [go_sem, ↓reduceIte, reduceCtorEq, Nat.reduceLT, Nat.reduceLeDiff, Nat.reduceEqDiff, Nat.reduceMul, Nat.reduceAdd, Nat.reduceSub, Int.reduceLE, Int.reduceLT]
          refine aCall_of (plus_spec (R + R) 1 (lenQ _ (by omega)) (lenQ _ (by omega))) ?_
          simp only [go_sem, ↓reduceIte, reduceCtorEq, Nat.reduceLT, Nat.reduceLeDiff, Nat.reduceEqDiff, Nat.reduceMul, Nat.reduceAdd, Nat.reduceSub, Int.reduceLE, Int.reduceLT]
          refine ⟨by kernel_rfl, ?_⟩
          have st := over_step (bit := 1) hd hQ hR (by omega)
          rw [show 2 * M + 1 = (N : Int) by omega] at st
          refine aCall_of (rcmp_spec (R + R + 1) d (lenQ _ (by omega)) (lenQ _ (by omega)) (by have := lenQ (R + R + 1 - d) (by omega); omega)) ?_
          simp only [go_sem, ↓reduceIte, reduceCtorEq, Nat.reduceLT, Nat.reduceLeDiff, Nat.reduceEqDiff, Nat.reduceMul, Nat.reduceAdd, Nat.reduceSub, Int.reduceLE, Int.reduceLT]
          refine ⟨fun h7 => ?_, fun h7 => ?_⟩
          · have h8 : d ≤ R + R + 1 := by
              unfold cmpI at h7
              split at h7 <;> try split at h7
              all_goals omega
            obtain ⟨s1, s2⟩ := st.1 h8
            refine aCall_of (less_spec (R + R + 1) d (lenQ _ (by omega)) (lenQ _ (by omega))) ?_
            simp only [go_sem, ↓reduceIte, reduceCtorEq, Nat.reduceLT, Nat.reduceLeDiff, Nat.reduceEqDiff, Nat.reduceMul, Nat.reduceAdd, Nat.reduceSub, Int.reduceLE, Int.reduceLT]
            refine aCall_of w1 ?_
            simp only [go_sem, ↓reduceIte, reduceCtorEq, Nat.reduceLT, Nat.reduceLeDiff, Nat.reduceEqDiff, Nat.reduceMul, Nat.reduceAdd, Nat.reduceSub, Int.reduceLE, Int.reduceLT]
            refine aCall_of (plus_spec (Q + Q) 1 (lenQ _ (by omega)) (lenQ _ (by omega))) ?_
            simp only [go_sem, ↓reduceIte, reduceCtorEq, Nat.reduceLT, Nat.reduceLeDiff, Nat.reduceEqDiff, Nat.reduceMul, Nat.reduceAdd, Nat.reduceSub, Int.reduceLE, Int.reduceLT]
            refine ⟨by kernel_rfl, ?_⟩
            refine Round.mk (i - 1, false) ⟨by show i - 1 ≤ k; omega, fun h => by cases h⟩ (by show i - 1 < i; omega) ?_
            simp only [S.shut, bx, i64_wrap ((i : Int) - 1 - 1) (by omega) (by omega), show ((i - 1 : Nat) : Int) - 1 = (i : Int) - 1 - 1 by omega, hn, s1, s2]
          · have h8 : ¬ d ≤ R + R + 1 := fun h8 => h7 (by
              unfold cmpI
              split <;> try split
              all_goals omega)
            obtain ⟨s1, s2⟩ := st.2 h8
            refine Round.mk (i - 1, false) ⟨by show i - 1 ≤ k; omega, fun h => by cases h⟩ (by show i - 1 < i; omega) ?_
            simp only [S.shut, bx, i64_wrap ((i : Int) - 1 - 1) (by omega) (by omega), show ((i - 1 : Nat) : Int) - 1 = (i : Int) - 1 - 1 by omega, hn, s1, s2]
        · have e3 : N % 2 = 0 := by omega
          have st := over_step (bit := 0) hd hQ hR (by omega)
          rw [show 2 * M + 0 = (N : Int) by omega, Int.add_zero] at st
          refine aCall_of (rcmp_spec (R + R) d (lenQ _ (by omega)) (lenQ _ (by omega)) (by have := lenQ (R + R - d) (by omega); omega)) ?_
          simp only [go_sem, ↓reduceIte, reduceCtorEq, Nat.reduceLT, Nat.reduceLeDiff, Nat.reduceEqDiff, Nat.reduceMul, Nat.reduceAdd, Nat.reduceSub, Int.reduceLE, Int.reduceLT]
          refine ⟨fun h7 => ?_, fun h7 => ?_⟩
          · have h8 : d ≤ R + R := by
              unfold cmpI at h7
              split at h7 <;> try split at h7
              all_goals omega
            obtain ⟨s1, s2⟩ := st.1 h8
            refine aCall_of (less_spec (R + R) d (lenQ _ (by omega)) (lenQ _ (by omega))) ?_
            simp only [go_sem, ↓reduceIte, reduceCtorEq, Nat.reduceLT, Nat.reduceLeDiff, Nat.reduceEqDiff, Nat.reduceMul, Nat.reduceAdd, Nat.reduceSub, Int.reduceLE, Int.reduceLT]
            refine aCall_of w1 ?_
            simp only [go_sem, ↓reduceIte, reduceCtorEq, Nat.reduceLT, Nat.reduceLeDiff, Nat.reduceEqDiff, Nat.reduceMul, Nat.reduceAdd, Nat.reduceSub, Int.reduceLE, Int.reduceLT]
            refine aCall_of (plus_spec (Q + Q) 1 (lenQ _ (by omega)) (lenQ _ (by omega))) ?_
            simp only [go_sem, ↓reduceIte, reduceCtorEq, Nat.reduceLT, Nat.reduceLeDiff, Nat.reduceEqDiff, Nat.reduceMul, Nat.reduceAdd, Nat.reduceSub, Int.reduceLE, Int.reduceLT]
            refine ⟨by kernel_rfl, ?_⟩
            refine Round.mk (i - 1, false) ⟨by show i - 1 ≤ k; omega, fun h => by cases h⟩ (by show i - 1 < i; omega) ?_
            simp only [S.shut, bx, i64_wrap ((i : Int) - 1 - 1) (by omega) (by omega), show ((i - 1 : Nat) : Int) - 1 = (i : Int) - 1 - 1 by omega, hn, s1, s2]
          · have h8 : ¬ d ≤ R + R := fun h8 => h7 (by
              unfold cmpI
              split <;> try split
              all_goals omega)
            obtain ⟨s1, s2⟩ := st.2 h8
            refine Round.mk (i - 1, false) ⟨by show i - 1 ≤ k; omega, fun h => by cases h⟩ (by show i - 1 < i; omega) ?_
            simp only [S.shut, bx, i64_wrap ((i : Int) - 1 - 1) (by omega) (by omega), show ((i - 1 : Nat) : Int) - 1 = (i : Int) - 1 - 1 by omega, hn, s1, s2]
      · have i0 : i = 0 := by omega
        subst i0
        simp only [Nat.pow_zero, Nat.div_one] at hM
        have negs : a < 0 → (R = 0 → a / d = -Q ∧ a % d = 0) ∧ (¬ R = 0 → a / d = -Q - 1 ∧ a % d = d - R) := fun ha0 => by
          refine ⟨fun h => ed_unique hd ?_ (by omega) (by omega), fun h => ed_unique hd ?_ (by omega) (by omega)⟩
          · rw [Int.mul_neg]; omega
          · rw [Int.mul_sub, Int.mul_neg, Int.mul_one]; omega
        have bs : ∀ b : Bool, (!b) = true ↔ b = false := fun b => by cases b <;> simp
        have bs' : ∀ b : Bool, (!b) = false ↔ b = true := fun b => by cases b <;> simp
        simp only [bs, bs', decide_eq_true_eq, decide_eq_false_iff_not]
        refine ⟨fun h6 => ⟨by kernel_rfl, ?_⟩, fun h6 => ?_⟩
        · obtain ⟨q3, r3⟩ := ed_unique (M := a) (q := Q) (r := R) hd (by omega) r1 r2
          rw [q3, r3]
        · obtain ⟨n1, n2⟩ := negs h6
          refine aCall_of (rsign_spec R (by have := lenQ R (by omega); omega)) ?_
          simp only [go_sem, ↓reduceIte, reduceCtorEq, Nat.reduceLT, Nat.reduceLeDiff, Nat.reduceEqDiff, Nat.reduceMul, Nat.reduceAdd, Nat.reduceSub, Int.reduceLE, Int.reduceLT]
          have c0 : cmpI R 0 = 0 ↔ R = 0 := by
            unfold cmpI
            split <;> try split
            all_goals omega
          simp only [c0]
          refine ⟨fun h7 => ?_, fun h7 => ?_⟩
          · obtain ⟨q3, r3⟩ := n1 h7
            refine aCall_of (turned_spec Q (by have := lenQ Q (by omega); omega)) ?_
            simp only [go_sem, ↓reduceIte, reduceCtorEq, Nat.reduceLT, Nat.reduceLeDiff, Nat.reduceEqDiff, Nat.reduceMul, Nat.reduceAdd, Nat.reduceSub, Int.reduceLE, Int.reduceLT]
            rw [q3, r3, h7]
            exact ⟨by kernel_rfl, rfl⟩
          · obtain ⟨q3, r3⟩ := n2 h7
            refine aCall_of (turned_spec Q (by have := lenQ Q (by omega); omega)) ?_
            simp only [go_sem, ↓reduceIte, reduceCtorEq, Nat.reduceLT, Nat.reduceLeDiff, Nat.reduceEqDiff, Nat.reduceMul, Nat.reduceAdd, Nat.reduceSub, Int.reduceLE, Int.reduceLT]
            refine aCall_of w1 ?_
            simp only [go_sem, ↓reduceIte, reduceCtorEq, Nat.reduceLT, Nat.reduceLeDiff, Nat.reduceEqDiff, Nat.reduceMul, Nat.reduceAdd, Nat.reduceSub, Int.reduceLE, Int.reduceLT]
            refine aCall_of (less_spec (-Q) 1 (lenQ _ (by omega)) (lenQ _ (by omega))) ?_
            simp only [go_sem, ↓reduceIte, reduceCtorEq, Nat.reduceLT, Nat.reduceLeDiff, Nat.reduceEqDiff, Nat.reduceMul, Nat.reduceAdd, Nat.reduceSub, Int.reduceLE, Int.reduceLT]
            refine aCall_of (less_spec d R (lenQ _ (by omega)) (lenQ _ (by omega))) ?_
            simp only [go_sem, ↓reduceIte, reduceCtorEq, Nat.reduceLT, Nat.reduceLeDiff, Nat.reduceEqDiff, Nat.reduceMul, Nat.reduceAdd, Nat.reduceSub, Int.reduceLE, Int.reduceLT]
            rw [q3, r3]
            exact ⟨by kernel_rfl, rfl⟩
    · obtain ⟨rfl, rfl⟩ := zero rfl
      have hzero : [D.v (.bool false), D.l []] = bigDs 0 := by simp [bigDs, digs_zero, rowsU]
      rw [← hzero] at pQ pR
      simp only [go_sem, ↓reduceIte, reduceCtorEq, Nat.reduceLT, Nat.reduceLeDiff, Nat.reduceEqDiff, Nat.reduceMul, Nat.reduceAdd, Nat.reduceSub, Int.reduceLE, Int.reduceLT, bigDs, bx]
      refine ⟨fun h5 => ?_, fun h5 => ?_⟩
      · refine aCall_of pQ ?_
        simp only [go_sem, ↓reduceIte, reduceCtorEq, Nat.reduceLT, Nat.reduceLeDiff, Nat.reduceEqDiff, Nat.reduceMul, Nat.reduceAdd, Nat.reduceSub, Int.reduceLE, Int.reduceLT]
        refine aCall_of pR ?_
        simp only [go_sem, ↓reduceIte, reduceCtorEq, Nat.reduceLT, Nat.reduceLeDiff, Nat.reduceEqDiff, Nat.reduceMul, Nat.reduceAdd, Nat.reduceSub, Int.reduceLE, Int.reduceLT]
        have e1 : ((i : Int) - 1).toNat = i - 1 := by omega
        have e2 : a.natAbs / 2 ^ (i - 1) / 2 = a.natAbs / 2 ^ i := by
          rw [Nat.div_div_eq_div_mul, ← Nat.pow_succ, show (i - 1).succ = i by omega]
        rw [btl_len, e1, btl_get (by omega)]
        generalize hn : a.natAbs / 2 ^ (i - 1) = N at *
        refine ⟨by kernel_rfl, h5, by omega, by omega, fun h6 => ?_, fun h6 => ?_⟩
        · have e3 : N % 2 = 1 := by omega
          refine aCall_of w1 ?_
          simp only [go_sem, ↓reduceIte, reduceCtorEq, Nat.reduceLT, Nat.reduceLeDiff, Nat.reduceEqDiff, Nat.reduceMul, Nat.reduceAdd, Nat.reduceSub, Int.reduceLE, Int.reduceLT]
          refine aCall_of (plus_spec (0 + 0) 1 (lenQ _ (by omega)) (lenQ _ (by omega))) ?_
          simp only [go_sem, ↓reduceIte, reduceCtorEq, Nat.reduceLT, Nat.reduceLeDiff, Nat.reduceEqDiff, Nat.reduceMul, Nat.reduceAdd, Nat.reduceSub, Int.reduceLE, Int.reduceLT]
          refine ⟨by kernel_rfl, ?_⟩
          have st := over_step (bit := 1) hd hQ hR (by omega)
          rw [show 2 * M + 1 = (N : Int) by omega] at st
          refine aCall_of (rcmp_spec (0 + 0 + 1) d (lenQ _ (by omega)) (lenQ _ (by omega)) (by have := lenQ (0 + 0 + 1 - d) (by omega); omega)) ?_
          simp only [go_sem, ↓reduceIte, reduceCtorEq, Nat.reduceLT, Nat.reduceLeDiff, Nat.reduceEqDiff, Nat.reduceMul, Nat.reduceAdd, Nat.reduceSub, Int.reduceLE, Int.reduceLT]
          refine ⟨fun h7 => ?_, fun h7 => ?_⟩
          · have h8 : d ≤ 0 + 0 + 1 := by
              unfold cmpI at h7
              split at h7 <;> try split at h7
              all_goals omega
            obtain ⟨s1, s2⟩ := st.1 h8
            refine aCall_of (less_spec (0 + 0 + 1) d (lenQ _ (by omega)) (lenQ _ (by omega))) ?_
            simp only [go_sem, ↓reduceIte, reduceCtorEq, Nat.reduceLT, Nat.reduceLeDiff, Nat.reduceEqDiff, Nat.reduceMul, Nat.reduceAdd, Nat.reduceSub, Int.reduceLE, Int.reduceLT]
            refine aCall_of w1 ?_
            simp only [go_sem, ↓reduceIte, reduceCtorEq, Nat.reduceLT, Nat.reduceLeDiff, Nat.reduceEqDiff, Nat.reduceMul, Nat.reduceAdd, Nat.reduceSub, Int.reduceLE, Int.reduceLT]
            refine aCall_of (plus_spec (0 + 0) 1 (lenQ _ (by omega)) (lenQ _ (by omega))) ?_
            simp only [go_sem, ↓reduceIte, reduceCtorEq, Nat.reduceLT, Nat.reduceLeDiff, Nat.reduceEqDiff, Nat.reduceMul, Nat.reduceAdd, Nat.reduceSub, Int.reduceLE, Int.reduceLT]
            refine ⟨by kernel_rfl, ?_⟩
            refine Round.mk (i - 1, false) ⟨by show i - 1 ≤ k; omega, fun h => by cases h⟩ (by show i - 1 < i; omega) ?_
            simp only [S.shut, bx, i64_wrap ((i : Int) - 1 - 1) (by omega) (by omega), show ((i - 1 : Nat) : Int) - 1 = (i : Int) - 1 - 1 by omega, hn, s1, s2]
          · have h8 : ¬ d ≤ 0 + 0 + 1 := fun h8 => h7 (by
              unfold cmpI
              split <;> try split
              all_goals omega)
            obtain ⟨s1, s2⟩ := st.2 h8
            refine Round.mk (i - 1, false) ⟨by show i - 1 ≤ k; omega, fun h => by cases h⟩ (by show i - 1 < i; omega) ?_
            simp only [S.shut, bx, i64_wrap ((i : Int) - 1 - 1) (by omega) (by omega), show ((i - 1 : Nat) : Int) - 1 = (i : Int) - 1 - 1 by omega, hn, s1, s2]
        · have e3 : N % 2 = 0 := by omega
          have st := over_step (bit := 0) hd hQ hR (by omega)
          rw [show 2 * M + 0 = (N : Int) by omega, Int.add_zero] at st
          refine aCall_of (rcmp_spec (0 + 0) d (lenQ _ (by omega)) (lenQ _ (by omega)) (by have := lenQ (0 + 0 - d) (by omega); omega)) ?_
          simp only [go_sem, ↓reduceIte, reduceCtorEq, Nat.reduceLT, Nat.reduceLeDiff, Nat.reduceEqDiff, Nat.reduceMul, Nat.reduceAdd, Nat.reduceSub, Int.reduceLE, Int.reduceLT]
          refine ⟨fun h7 => ?_, fun h7 => ?_⟩
          · have h8 : d ≤ 0 + 0 := by
              unfold cmpI at h7
              split at h7 <;> try split at h7
              all_goals omega
            obtain ⟨s1, s2⟩ := st.1 h8
            refine aCall_of (less_spec (0 + 0) d (lenQ _ (by omega)) (lenQ _ (by omega))) ?_
            simp only [go_sem, ↓reduceIte, reduceCtorEq, Nat.reduceLT, Nat.reduceLeDiff, Nat.reduceEqDiff, Nat.reduceMul, Nat.reduceAdd, Nat.reduceSub, Int.reduceLE, Int.reduceLT]
            refine aCall_of w1 ?_
            simp only [go_sem, ↓reduceIte, reduceCtorEq, Nat.reduceLT, Nat.reduceLeDiff, Nat.reduceEqDiff, Nat.reduceMul, Nat.reduceAdd, Nat.reduceSub, Int.reduceLE, Int.reduceLT]
            refine aCall_of (plus_spec (0 + 0) 1 (lenQ _ (by omega)) (lenQ _ (by omega))) ?_
            simp only [go_sem, ↓reduceIte, reduceCtorEq, Nat.reduceLT, Nat.reduceLeDiff, Nat.reduceEqDiff, Nat.reduceMul, Nat.reduceAdd, Nat.reduceSub, Int.reduceLE, Int.reduceLT]
            refine ⟨by kernel_rfl, ?_⟩
            refine Round.mk (i - 1, false) ⟨by show i - 1 ≤ k; omega, fun h => by cases h⟩ (by show i - 1 < i; omega) ?_
            simp only [S.shut, bx, i64_wrap ((i : Int) - 1 - 1) (by omega) (by omega), show ((i - 1 : Nat) : Int) - 1 = (i : Int) - 1 - 1 by omega, hn, s1, s2]
          · have h8 : ¬ d ≤ 0 + 0 := fun h8 => h7 (by
              unfold cmpI
              split <;> try split
              all_goals omega)
            obtain ⟨s1, s2⟩ := st.2 h8
            refine Round.mk (i - 1, false) ⟨by show i - 1 ≤ k; omega, fun h => by cases h⟩ (by show i - 1 < i; omega) ?_
            simp only [S.shut, bx, i64_wrap ((i : Int) - 1 - 1) (by omega) (by omega), show ((i - 1 : Nat) : Int) - 1 = (i : Int) - 1 - 1 by omega, hn, s1, s2]
      · have i0 : i = 0 := by omega
        subst i0
        simp only [Nat.pow_zero, Nat.div_one] at hM
        have a0 : a = 0 := by
          have := g3 rfl
          rw [Nat.pow_zero, Nat.div_one] at this
          omega
        subst a0
        refine ⟨fun h6 => ⟨by kernel_rfl, ?_⟩, fun h6 => absurd h6 (by simp)⟩
        simp [digs_zero, rowsU]
end Go.Ax
