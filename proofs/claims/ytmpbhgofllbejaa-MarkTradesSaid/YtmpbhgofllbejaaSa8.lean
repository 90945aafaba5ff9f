/- A part of the proof: Sa8. -/
import Derived.Test.YtmpbhgofllbejaaSa7
set_option linter.unusedVariables false
set_option linter.unusedSimpArgs false
set_option linter.unusedSimpArgs false
set_option linter.unusedVariables false
namespace Go.Ax
open Go Go.Proofs
set_option maxRecDepth 100000
theorem valU_set {ds : List Nat} {k : Nat} (d : Nat) (h : k < ds.length) : valU (ds.set k d) + (ds[k]?.getD 0) * BB ^ k = valU ds + d * BB ^ k := by
  induction ds generalizing k with
  | nil => simp at h
  | cons x r ih =>
    cases k with
    | zero => simp only [List.set_cons_zero, valU, List.getElem?_cons_zero, Option.getD_some, Nat.pow_zero, Nat.mul_one]; omega
    | succ k =>
      have := ih (k := k) (by simpa using h)
      simp only [List.set_cons_succ, valU, List.getElem?_cons_succ, Nat.pow_succ]
      have e1 : r[k]?.getD 0 * (BB ^ k * BB) = BB * (r[k]?.getD 0 * BB ^ k) := by ac_rfl
      have e2 : d * (BB ^ k * BB) = BB * (d * BB ^ k) := by ac_rfl
      rw [e1, e2, Nat.add_assoc, ← Nat.mul_add, this, Nat.mul_add]
      omega
theorem set_lt {ds : List Nat} (h : ∀ d ∈ ds, d < BB) {k d : Nat} (hd : d < BB) : ∀ x ∈ ds.set k d, x < BB := by
  intro x hx
  rcases List.mem_or_eq_of_mem_set hx with hx | rfl
  · exact h x hx
  · exact hd
theorem get_lt {ds : List Nat} (h : ∀ d ∈ ds, d < BB) (k : Nat) : ds[k]?.getD 0 < BB := by
  cases e : ds[k]? with
  | none => exact BB_pos
  | some x => exact h x (List.mem_of_getElem? e)
theorem mod_succ (a i : Nat) : a % BB ^ (i + 1) = a % BB ^ i + BB ^ i * (a / BB ^ i % BB) := by rw [Nat.pow_succ, Nat.mod_mul]
/-- What one step of the inner loop of a product keeps. -/
def Inn (A B i N : Nat) (j c : Nat) (out : List Nat) : Prop :=
  out.length = N ∧ (∀ d ∈ out, d < BB) ∧ c < BB ∧ valU out + c * BB ^ (i + j) = A % BB ^ i * B + BB ^ i * ((A / BB ^ i % BB) * (B % BB ^ j))
theorem inn_start {A B i N : Nat} {out : List Nat} (h1 : out.length = N) (h2 : ∀ d ∈ out, d < BB) (h3 : valU out = A % BB ^ i * B) : Inn A B i N 0 0 out := by
  refine ⟨h1, h2, BB_pos, ?_⟩
  simp [Nat.mod_one, h3]
theorem inn_step {A B i N j c : Nat} {out : List Nat} (h : Inn A B i N j c out) (hk : i + j < N) :
    (c + (out[i + j]?.getD 0 + (A / BB ^ i % BB * (B / BB ^ j % BB)) % 2 ^ 64) % 2 ^ 64) % 2 ^ 64 = c + (out[i + j]?.getD 0 + A / BB ^ i % BB * (B / BB ^ j % BB)) ∧
    Inn A B i N (j + 1) ((c + (out[i + j]?.getD 0 + A / BB ^ i % BB * (B / BB ^ j % BB))) / 2 ^ 32) (out.set (i + j) ((c + (out[i + j]?.getD 0 + A / BB ^ i % BB * (B / BB ^ j % BB))) % 2 ^ 32)) := by
  obtain ⟨h1, h2, h3, h4⟩ := h
  have b1 := Nat.mod_lt (A / BB ^ i) BB_pos
  have b2 := Nat.mod_lt (B / BB ^ j) BB_pos
  have b3 := get_lt h2 (i + j)
  have hs := valU_set (ds := out) (k := i + j) ((c + (out[i + j]?.getD 0 + A / BB ^ i % BB * (B / BB ^ j % BB))) % 2 ^ 32) (by omega)
  have hm := mod_succ B j
  generalize hx : A / BB ^ i % BB = x at *
  generalize hy : B / BB ^ j % BB = y at *
  generalize out[i + j]?.getD 0 = o at *
  have b4 : x * y ≤ (BB - 1) * (BB - 1) := Nat.mul_le_mul (by omega) (by omega)
  generalize hp : x * y = p at *
  have e0 : (c + (o + p % 2 ^ 64) % 2 ^ 64) % 2 ^ 64 = c + (o + p) := by
    simp only [BB] at b1 b2 b3 b4 h3
    omega
  refine ⟨e0, by rw [List.length_set]; exact h1, set_lt h2 (by simp only [BB]; omega), by simp only [BB] at *; omega, ?_⟩
  have ed := Nat.div_add_mod (c + (o + p)) (2 ^ 32)
  generalize (c + (o + p)) / 2 ^ 32 = q at *
  generalize (c + (o + p)) % 2 ^ 32 = r at *
  have e1 : BB ^ i * (x * (BB ^ j * y)) = p * BB ^ (i + j) := by rw [Nat.pow_add, ← hp]; ac_rfl
  have e2 : q * BB ^ (i + (j + 1)) = (2 ^ 32 * q) * BB ^ (i + j) := by
    rw [← Nat.add_assoc, Nat.pow_succ, show (2 : Nat) ^ 32 = BB from rfl]; ac_rfl
  have e4 : BB ^ i * (x * (B % BB ^ j + BB ^ j * y)) = BB ^ i * (x * (B % BB ^ j)) + p * BB ^ (i + j) := by rw [Nat.mul_add, Nat.mul_add, e1]
  rw [hm, hx, e4, e2]
  have e3 : 2 ^ 32 * q * BB ^ (i + j) + r * BB ^ (i + j) = c * BB ^ (i + j) + (o * BB ^ (i + j) + p * BB ^ (i + j)) := by
    rw [← Nat.add_mul, ed, Nat.add_mul, Nat.add_mul]
  omega
theorem inn_more {A B i N j c : Nat} {out : List Nat} (h : Inn A B i N j c out) (hi : i < (digs A).length) (hN : N = (digs A).length + (digs B).length + 1) (hc : j < (digs B).length ∨ 0 < c) : i + j < N := by
  rcases hc with hc | hc
  · omega
  · obtain ⟨h1, h2, h3, h4⟩ := h
    have hB := (digs_len B (digs B).length).1 (Nat.le_refl _)
    have b0 := Nat.mod_lt A (pw (i + 1))
    have e : A % BB ^ i * B + BB ^ i * ((A / BB ^ i % BB) * (B % BB ^ j)) ≤ A % BB ^ (i + 1) * B := by
      rw [mod_succ A i, Nat.add_mul]
      have : (A / BB ^ i % BB) * (B % BB ^ j) ≤ (A / BB ^ i % BB) * B := Nat.mul_le_mul_left _ (Nat.mod_le _ _)
      have := Nat.mul_le_mul_left (BB ^ i) this
      rw [← Nat.mul_assoc (BB ^ i) (A / BB ^ i % BB) B] at this
      omega
    have e2 : A % BB ^ (i + 1) * B < BB ^ (i + 1) * BB ^ (digs B).length := by
      refine Nat.lt_of_le_of_lt (Nat.mul_le_mul_left _ (Nat.le_of_lt hB)) ?_
      exact Nat.mul_lt_mul_of_pos_right b0 (pw _)
    rw [← Nat.pow_add] at e2
    have e3 : BB ^ (i + j) < BB ^ (i + 1 + (digs B).length) := by
      have : 1 * BB ^ (i + j) ≤ c * BB ^ (i + j) := Nat.mul_le_mul_right _ hc
      omega
    have := (Nat.pow_lt_pow_iff_right (by decide : 1 < BB)).1 e3
    omega
theorem inn_end {A B i N j : Nat} {out : List Nat} (h : Inn A B i N j 0 out) (hj : (digs B).length ≤ j) : valU out = A % BB ^ (i + 1) * B := by
  obtain ⟨h1, h2, h3, h4⟩ := h
  have hB := (digs_len B j).1 hj
  rw [Nat.mod_eq_of_lt hB] at h4
  rw [mod_succ A i, Nat.add_mul, Nat.mul_assoc]
  omega
def boxB (a : Int) : T := .box [.d (.v (.bool (decide (a < 0)))), .d (.l (rowsU (digs a.natAbs)))]
def stT (a b : Int) (i : Nat) (out : List Nat) (t7 t8 : T) : S := ⟨71, [], [(0, .agg (bigDs a)), (1, .agg (bigDs b)), (2, boxB a), (3, boxB b), (4, .box [.d (.v (.bool false)), .own 0 []]), (5, .own 1 (rowsU out)), (6, .one (.v (.int .i64 i))), (7, t7), (8, t8)]⟩
attribute [go_sem] stT boxB
theorem times_spec (a b : Int) (ha : (digs a.natAbs).length < 2 ^ 20) (hb : (digs b.natAbs).length < 2 ^ 20) : FSpec Try.prog 71 [(true, bigDs a), (true, bigDs b)] [.agg (bigDs (a * b))] := by
  refine fspec_of aDraw (aDraw_ok mixed) Try.func71 rfl (by decide) [0, 1, 2, 3, 4, 5, 6, 7, 8] (rs := [.cell 4 76]) rfl (by decide) (n := 71) rfl (by simp) ?_
  simp (maxSteps := 2000000) only [go_sem, p_kSeq, ↓reduceIte, reduceCtorEq, Nat.reduceLT, Nat.reduceLeDiff, Nat.reduceEqDiff, Nat.reduceMul, Nat.reduceAdd, Nat.reduceSub, Int.reduceLE, Int.reduceLT]
  have hN : IntKind.i64.wrap (IntKind.i64.wrap (↑(digs a.natAbs).length + ↑(digs b.natAbs).length) + 1) = (((digs a.natAbs).length + (digs b.natAbs).length + 1 : Nat) : Int) := by
    rw [i64_wrap ((digs a.natAbs).length + (digs b.natAbs).length : Int) (by omega) (by omega), i64_wrap _ (by omega) (by omega)]
    omega
  rw [hN]
  refine ⟨by omega, by omega, by omega, by omega, ?_⟩
  rw [aCode_loop, Int.toNat_natCast]
  generalize hNN : (digs a.natAbs).length + (digs b.natAbs).length + 1 = N at *
  refine aLoop_of (α := Nat × List Nat × T × T) (fun p => stT a b p.1 p.2.1 p.2.2.1 p.2.2.2)
    (fun p => p.1 ≤ (digs a.natAbs).length ∧ p.2.1.length = N ∧ (∀ d ∈ p.2.1, d < BB) ∧ valU p.2.1 = a.natAbs % BB ^ p.1 * b.natAbs) (fun p => (digs a.natAbs).length - p.1)
    (0, List.replicate N 0, .none, .none) ⟨Nat.zero_le _, by simp, (by simp [BB]), ?_⟩ rfl (fun ⟨i, out, t7, t8⟩ ⟨hi, h1, h2, h3⟩ => ?_)
  · simp only [Nat.pow_zero, Nat.mod_one, Nat.zero_mul]
    clear hNN hN
    induction N with
    | zero => rfl
    | succ n ih => rw [List.replicate_succ, valU, ih]; rfl
  simp only at hi h1 h2 h3
  simp (maxSteps := 2000000) only [go_sem, p_kSeq, ↓reduceIte, reduceCtorEq, Nat.reduceLT, Nat.reduceLeDiff, Nat.reduceEqDiff, Nat.reduceMul, Nat.reduceAdd, Nat.reduceSub, Int.reduceLE, Int.reduceLT]
  refine ⟨fun hl => ?_, fun hl => ?_⟩
  · rw [aCode_loop]
    refine aLoop_of (α := Nat × Nat × List Nat) (fun q => stT a b i q.2.2 (.one (.v (.int .u64 (q.2.1 : Nat)))) (.one (.v (.int .i64 q.1))))
      (fun q => Inn a.natAbs b.natAbs i N q.1 q.2.1 q.2.2) (fun q => N - q.1) (0, 0, out) (inn_start h1 h2 h3) rfl (fun ⟨j, c, ou⟩ hI => ?_)
    simp only at hI
    have hmore := inn_more hI (by omega) hNN.symm
    have hlen : ou.length = N := hI.1
    simp (maxSteps := 2000000) only [go_sem, p_kSeq, ↓reduceIte, reduceCtorEq, Nat.reduceLT, Nat.reduceLeDiff, Nat.reduceEqDiff, Nat.reduceMul, Nat.reduceAdd, Nat.reduceSub, Int.reduceLE, Int.reduceLT]
    refine ⟨fun g1 => ⟨fun g2 => ?_, fun g2 => ?_⟩, fun g1 => ?_⟩
    case refine_2 =>
      have hc0 : c = 0 := by omega
      subst hc0
      refine Round.mk (i + 1, ou, .one (.v (.int .u64 ((0 : Nat) : Int))), .one (.v (.int .i64 j))) ⟨by show i + 1 ≤ _; omega, hI.1, hI.2.1, inn_end hI (by omega)⟩ (by show _ - (i + 1) < _; omega) ?_
      simp only [S.shut, i64_wrap ((i : Int) + 1) (by omega) (by omega), stT, boxB, bigDs]
      rfl
    all_goals
      have hk : i + j < N := hmore (by omega)
      obtain ⟨s1, s2⟩ := inn_step hI hk
      have hw : IntKind.i64.wrap ((i : Int) + (j : Int)) = ((i + j : Nat) : Int) := by rw [i64_wrap _ (by omega) (by omega)]; omega
      rw [hw]
      refine ⟨by omega, by omega, by omega, by omega, by omega, ?_⟩
      refine aCall_of (digit_spec (digs b.natAbs) j (by omega)) ?_
      simp (maxSteps := 2000000) only [go_sem, p_kSeq, ↓reduceIte, reduceCtorEq, Nat.reduceLT, Nat.reduceLeDiff, Nat.reduceEqDiff, Nat.reduceMul, Nat.reduceAdd, Nat.reduceSub, Int.reduceLE, Int.reduceLT]
      simp only [Int.toNat_natCast, digs_get, s1, hw]
      refine ⟨by kernel_rfl, by omega, by omega, by omega, by omega, Round.mk (j + 1, _, _) s2 (by show N - (j + 1) < N - j; omega) ?_⟩
      simp only [S.shut, i64_wrap ((j : Int) + 1) (by omega) (by omega), rowsU_set, stT, boxB, bigDs]
      rfl
  · have hii : i = (digs a.natAbs).length := by omega
    subst hii
    rw [Nat.mod_eq_of_lt ((digs_len a.natAbs _).1 (Nat.le_refl _))] at h3
    have hm := made_spec (!(decide (a < 0) == decide (b < 0))) out h2 (by omega)
    have hx : sgn (!(decide (a < 0) == decide (b < 0))) (valU out) = a * b := by
      obtain ⟨g1, g2⟩ := mul_sign a b
      rw [h3]
      unfold sgn
      by_cases hs : decide (a < 0) = decide (b < 0)
      · rw [g1 hs]; simp [hs]
      · rw [g2 hs]; simp [hs]
    rw [hx] at hm
    refine aCall_of hm ?_
    simp (maxSteps := 2000000) only [go_sem, p_kSeq, ↓reduceIte, reduceCtorEq, Nat.reduceLT, Nat.reduceLeDiff, Nat.reduceEqDiff, Nat.reduceMul, Nat.reduceAdd, Nat.reduceSub, Int.reduceLE, Int.reduceLT]
end Go.Ax
