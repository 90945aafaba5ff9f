/- bits.Div64. -/
import Derived.Test.YtoojnlkkmppjiaaSd8
set_option linter.unusedVariables false
set_option linter.unusedSimpArgs false
set_option linter.unusedSimpArgs false
set_option linter.unusedVariables false
namespace Go.Ax
open Go Go.Proofs
set_option maxRecDepth 100000
theorem norm_two {d : Nat} (hd : d < 2 ^ 64) (h0 : 0 < d) : 2 ^ 63 ≤ d * 2 ^ (63 - Nat.log2 d) ∧ d * 2 ^ (63 - Nat.log2 d) < 2 ^ 64 := by
  have hlog : Nat.log2 d < 64 := (Nat.log2_lt (by omega)).2 hd
  obtain ⟨h1, h2⟩ := (Nat.log2_eq_iff (k := Nat.log2 d) (by omega : d ≠ 0)).1 rfl
  have e1 : (2 : Nat) ^ 63 = 2 ^ Nat.log2 d * 2 ^ (63 - Nat.log2 d) := by rw [← Nat.pow_add]; congr 1; omega
  have e2 : (2 : Nat) ^ 64 = 2 ^ (Nat.log2 d + 1) * 2 ^ (63 - Nat.log2 d) := by rw [← Nat.pow_add]; congr 1; omega
  rw [e1, e2]
  exact ⟨Nat.mul_le_mul_right _ h1, Nat.mul_lt_mul_of_pos_right h2 (Nat.pow_pos (by decide))⟩
theorem norm_hi {x y d s : Nat} (hs : s ≤ 63) (hxd : x < d) (hy : y < 2 ^ 64) : x * 2 ^ s + y / 2 ^ (64 - s) < d * 2 ^ s ∧ y / 2 ^ (64 - s) < 2 ^ s ∧ (x * 2 ^ 64 + y) * 2 ^ s = (x * 2 ^ s + y / 2 ^ (64 - s)) * 2 ^ 64 + y * 2 ^ s % 2 ^ 64 := by
  have e : (2 : Nat) ^ 64 = 2 ^ (64 - s) * 2 ^ s := by rw [← Nat.pow_add]; congr 1; omega
  have h1 : y / 2 ^ (64 - s) < 2 ^ s := by
    refine Nat.div_lt_of_lt_mul ?_
    rw [← e]; exact hy
  have h2 : (x + 1) * 2 ^ s ≤ d * 2 ^ s := Nat.mul_le_mul_right _ hxd
  rw [Nat.add_mul, Nat.one_mul] at h2
  refine ⟨by omega, h1, ?_⟩
  have h3 : y * 2 ^ s / 2 ^ 64 = y / 2 ^ (64 - s) := by
    rw [e, Nat.mul_div_mul_right _ _ (Nat.pow_pos (by decide))]
  have h4 := Nat.div_add_mod (y * 2 ^ s) (2 ^ 64)
  rw [h3] at h4
  rw [Nat.add_mul, Nat.add_mul, Nat.mul_right_comm]
  generalize y / 2 ^ (64 - s) = p at *
  generalize y * 2 ^ s % 2 ^ 64 = r at *
  generalize y * 2 ^ s = t at *
  generalize x * 2 ^ s = u at *
  omega
theorem or_u64 (a b s : Nat) (hb : b < 2 ^ s) (ha : a * 2 ^ s + b < 2 ^ 64) : Go.bits .or .u64 ((a * 2 ^ s : Nat) : Int) (b : Int) = ((a * 2 ^ s + b : Nat) : Int) := by
  have h : (BitVec.ofInt 64 ((a * 2 ^ s : Nat) : Int) ||| BitVec.ofInt 64 (b : Int)).toNat = a * 2 ^ s + b := by
    rw [BitVec.toNat_or]
    have h1 : (BitVec.ofInt 64 (b : Int)).toNat = b := by simp [BitVec.toNat_ofInt]; omega
    have h2 : (BitVec.ofInt 64 ((a * 2 ^ s : Nat) : Int)).toNat = a * 2 ^ s := by
      rw [BitVec.toNat_ofInt]
      omega
    rw [h1, h2, Nat.mul_comm a, ← Nat.two_pow_add_eq_or_of_lt hb]
  show IntKind.u64.wrap ((BitVec.ofInt 64 ((a * 2 ^ s : Nat) : Int) ||| BitVec.ofInt 64 (b : Int)).toNat : Int) = _
  rw [h, wrap_u64, Nat.mod_eq_of_lt ha]
theorem two_div32 (h l d : Int) (hd : 0 < d) (hl : 0 ≤ l) (hl2 : l < 4294967296) :
    (h * 4294967296 + l) / d = h / d * 4294967296 + (h % d * 4294967296 + l) / d ∧ (h * 4294967296 + l) % d = (h % d * 4294967296 + l) % d ∧ (h % d * 4294967296 + l) / d < 4294967296 ∧ 0 ≤ (h % d * 4294967296 + l) / d := by
  have e := Int.mul_ediv_add_emod h d
  have r1 := Int.emod_nonneg h (by omega : d ≠ 0)
  have r2 := Int.emod_lt_of_pos h hd
  have e2 := Int.mul_ediv_add_emod (h % d * 4294967296 + l) d
  have r3 := Int.emod_nonneg (h % d * 4294967296 + l) (by omega : d ≠ 0)
  have r4 := Int.emod_lt_of_pos (h % d * 4294967296 + l) hd
  have q4 : (h % d * 4294967296 + l) / d < 4294967296 := Int.ediv_lt_of_lt_mul hd (by omega)
  have q5 : 0 ≤ (h % d * 4294967296 + l) / d := Int.ediv_nonneg (by omega) (by omega)
  obtain ⟨a1, a2⟩ := ed_unique (M := h * 4294967296 + l) (q := h / d * 4294967296 + (h % d * 4294967296 + l) / d) (r := (h % d * 4294967296 + l) % d) hd (by
    rw [Int.mul_add, ← Int.mul_assoc]
    generalize d * (h / d) = p at *
    generalize d * ((h % d * 4294967296 + l) / d) = s at *
    omega) r3 r4
  exact ⟨a1, a2, q4, q5⟩
theorem div64_high (x y d : Nat) (hx : 0 < x) (hxd : x < d) (hy : y < 2 ^ 64) (hd : d < 2 ^ 64) : FSpec Try.prog 61 [(false, [.v (.int .u64 (x : Int))]), (false, [.v (.int .u64 (y : Int))]), (false, [.v (.int .u64 (d : Int))])] [.one (.d (.v (.int .u64 (((x * 2 ^ 64 + y) / d : Nat) : Int)))), .one (.d (.v (.int .u64 (((x * 2 ^ 64 + y) % d : Nat) : Int))))] := by
  refine fspec_of aDraw (aDraw_ok mixed) Try.func61 rfl (by decide) [0, 1, 2, 6, 7, 8, 9, 10, 11, 12, 13, 14, 15, 16, 17, 18] (rs := [.tmp 6, .tmp 7]) rfl (by decide) (n := 135) rfl (by simp) ?_
  have hlog : Nat.log2 d < 64 := (Nat.log2_lt (by omega)).2 hd
  obtain ⟨n1, n2⟩ := norm_two hd (by omega)
  have hlz := lz64_spec d hd (by omega)
  generalize hs : 63 - Nat.log2 d = s at *
  have hs63 : s ≤ 63 := by omega
  obtain ⟨m1, m2, m3⟩ := norm_hi hs63 hxd hy
  have w1 : IntKind.u64.wrap (s : Int) = s := by rw [u64_mod]; omega
  have w2 : IntKind.u64.wrap (64 - (s : Int)) = ((64 - s : Nat) : Int) := by rw [u64_mod]; omega
  have w3 : min (s : Int).toNat 64 = s := by omega
  have w4 : min ((64 - s : Nat) : Int).toNat 64 = 64 - s := by omega
  have p2 : ∀ k : Nat, ((2 : Int) ^ k) = ((2 ^ k : Nat) : Int) := fun k => by simp
  have e1 : IntKind.u64.wrap ((d : Int) * 2 ^ s) = ((d * 2 ^ s : Nat) : Int) := by
    rw [p2, ← Int.natCast_mul, wrap_u64, Nat.mod_eq_of_lt n2]
  have e2 : Go.bits .or .u64 (IntKind.u64.wrap ((x : Int) * 2 ^ s)) ((y : Int).fdiv (2 ^ (64 - s))) = ((x * 2 ^ s + y / 2 ^ (64 - s) : Nat) : Int) := by
    have a1 : IntKind.u64.wrap ((x : Int) * 2 ^ s) = ((x * 2 ^ s : Nat) : Int) := by
      rw [p2, ← Int.natCast_mul, wrap_u64, Nat.mod_eq_of_lt (Nat.lt_of_le_of_lt (Nat.le_add_right _ _) (Nat.lt_trans m1 n2))]
    have a2 : (y : Int).fdiv (2 ^ (64 - s)) = ((y / 2 ^ (64 - s) : Nat) : Int) := by
      rw [p2, Int.fdiv_eq_ediv_of_nonneg _ (Int.natCast_nonneg _)]; rfl
    rw [a1, a2, or_u64 _ _ _ m2 (Nat.lt_trans m1 n2)]
  have e3 : IntKind.u64.wrap ((y : Int) * 2 ^ s) = ((y * 2 ^ s % 2 ^ 64 : Nat) : Int) := by
    rw [p2, ← Int.natCast_mul, wrap_u64]
  have hYlt := Nat.mod_lt (y * 2 ^ s) (by decide : 0 < 2 ^ 64)
  generalize hD : d * 2 ^ s = D at *
  generalize hU : x * 2 ^ s + y / 2 ^ (64 - s) = U at *
  generalize hY : y * 2 ^ s % 2 ^ 64 = Y at *
  have td : ∀ a b : Nat, a < 2 ^ 64 → IntKind.u64.wrap ((a : Int).tdiv (b : Int)) = ((a / b : Nat) : Int) := fun a b h => by
    rw [show (a : Int).tdiv (b : Int) = ((a / b : Nat) : Int) from rfl, wrap_u64, Nat.mod_eq_of_lt (Nat.lt_of_le_of_lt (Nat.div_le_self _ _) h)]
  simp only [go_sem, ↓reduceIte, reduceCtorEq, Nat.reduceLT, Nat.reduceLeDiff, Nat.reduceEqDiff, Nat.reduceMul, Nat.reduceAdd, Nat.reduceSub, Int.reduceLE, Int.reduceLT]
  refine ⟨fun h => by omega, fun _ => ⟨fun h => by omega, fun _ => ⟨fun h => by omega, fun _ => ?_⟩⟩⟩
  refine aCall_of hlz ?_
  simp only [go_sem, ↓reduceIte, reduceCtorEq, Nat.reduceLT, Nat.reduceLeDiff, Nat.reduceEqDiff, Nat.reduceMul, Nat.reduceAdd, Nat.reduceSub, Int.reduceLE, Int.reduceLT, w1, w2, w3, w4, e1, e2, e3, td U (D / 2 ^ 32) (by omega)]
  have fin : ∀ q : Nat, q = (U * 2 ^ 64 + Y) / D → ((q : Nat) : Int) = (((x * 2 ^ 64 + y) / d : Nat) : Int) := fun q hq => by
    rw [hq, ← m3, ← hD, Nat.mul_div_mul_right _ _ (Nat.pow_pos (by decide))]
  have fin2 : ((U * 2 ^ 64 + Y) % D) / 2 ^ s = (x * 2 ^ 64 + y) % d := by
    rw [← m3, ← hD, Nat.mul_mod_mul_right, Nat.mul_div_cancel _ (Nat.pow_pos (by decide))]
  have dpos : ¬ ((D / 2 ^ 32 : Nat) : Int) = 0 := by omega
  refine ⟨by omega, by omega, by omega, by omega, dpos, ?_⟩
  have f1 : ((D / 2 ^ 32 : Nat) : Int) * 4294967296 + ((D % 2 ^ 32 : Nat) : Int) = (D : Int) := by omega
  have f2 : 2147483648 ≤ ((D / 2 ^ 32 : Nat) : Int) ∧ ((D / 2 ^ 32 : Nat) : Int) < 4294967296 := by omega
  have f3 : 0 ≤ ((D % 2 ^ 32 : Nat) : Int) ∧ ((D % 2 ^ 32 : Nat) : Int) < 4294967296 := by omega
  have f4 : ((Y / 2 ^ 32 : Nat) : Int) * 4294967296 + ((Y % 2 ^ 32 : Nat) : Int) = (Y : Int) := by omega
  have f5 : 0 ≤ ((Y / 2 ^ 32 : Nat) : Int) ∧ ((Y / 2 ^ 32 : Nat) : Int) < 4294967296 := by omega
  have f6 : 0 ≤ ((Y % 2 ^ 32 : Nat) : Int) ∧ ((Y % 2 ^ 32 : Nat) : Int) < 4294967296 := by omega
  have q0 : ((U / (D / 2 ^ 32) : Nat) : Int) = (U : Int) / ((D / 2 ^ 32 : Nat) : Int) := Int.natCast_ediv _ _
  have r0 : IntKind.u64.wrap ((U : Int) - ((U / (D / 2 ^ 32) * (D / 2 ^ 32) % 2 ^ 64 : Nat) : Int)) = (U : Int) % ((D / 2 ^ 32 : Nat) : Int) := by
    have h1 := Nat.div_add_mod U (D / 2 ^ 32)
    rw [← Int.natCast_emod]
    rw [Nat.mul_comm] at h1
    generalize U / (D / 2 ^ 32) * (D / 2 ^ 32) = p at *
    generalize U % (D / 2 ^ 32) = r at *
    rw [u64_mod]
    omega
  have hUD : (U : Int) < (D : Int) := by omega
  have hU0 : (0 : Int) ≤ U := by omega
  have hD2 : (D : Int) < 18446744073709551616 := by omega
  have hS : ((U * 2 ^ 64 + Y : Nat) : Int) = ((U : Int) * 4294967296 + ((Y / 2 ^ 32 : Nat) : Int)) * 4294967296 + ((Y % 2 ^ 32 : Nat) : Int) := by omega
  have g1 : (((x * 2 ^ 64 + y) / d : Nat) : Int) = (((U : Int) * 4294967296 + ((Y / 2 ^ 32 : Nat) : Int)) * 4294967296 + ((Y % 2 ^ 32 : Nat) : Int)) / (D : Int) := by
    rw [← fin _ rfl, Int.natCast_ediv, hS]
  have g2 : (((x * 2 ^ 64 + y) % d : Nat) : Int) = (((U : Int) * 4294967296 + ((Y / 2 ^ 32 : Nat) : Int)) * 4294967296 + ((Y % 2 ^ 32 : Nat) : Int)) % (D : Int) / ((2 ^ s : Nat) : Int) := by
    rw [← fin2, Int.natCast_ediv, Int.natCast_emod, hS]
  rw [q0, r0, g1, g2]
  clear g1 g2 q0 r0 hS fin fin2 td e1 e2 e3 m1 m2 m3 hlz
  have hsb : (0 : Int) < ((2 ^ s : Nat) : Int) := Int.ofNat_lt.2 (Nat.pow_pos (by decide))
  have hsh : ∀ z : Int, z.fdiv (2 ^ s) = z / ((2 ^ s : Nat) : Int) := fun z => by rw [p2, Int.fdiv_eq_ediv_of_nonneg _ (Int.natCast_nonneg _)]
  generalize ((D / 2 ^ 32 : Nat) : Int) = a at *
  generalize ((D % 2 ^ 32 : Nat) : Int) = b at *
  generalize ((Y / 2 ^ 32 : Nat) : Int) = y1 at *
  generalize ((Y % 2 ^ 32 : Nat) : Int) = y0 at *
  generalize (D : Int) = Dn at *
  generalize (U : Int) = u at *
  generalize (Y : Int) = Yn at *
  subst f1
  have hd0 : 0 < a * 4294967296 + b := by omega
  rw [aCode_loop]
  refine aLoop_of (α := Int × Int) (fun p => ⟨135, [], [(0, .one (.v (.int .u64 x))), (1, .one (.v (.int .u64 y))), (2, .one (.v (.int .u64 (a * 4294967296 + b)))), (6, .one (.v (.int .u64 0))), (7, .one (.v (.int .u64 0))), (8, .one (.v (.int .u64 s))), (9, .one (.v (.int .u64 a))), (10, .one (.v (.int .u64 b))), (11, .one (.v (.int .u64 u))), (12, .one (.v (.int .u64 Yn))), (13, .one (.v (.int .u64 y1))), (14, .one (.v (.int .u64 y0))), (15, .one (.v (.int .u64 p.1))), (16, .one (.v (.int .u64 p.2))), (17, .none), (18, .none)]⟩)
    (fun p => Kn u y1 a b p.1 p.2) (fun p => p.1.toNat) (u / a, u % a) ⟨kn_init (by omega) f3.1 hU0 f5.1 f5.2, by rw [Int.mul_comm]; exact Int.mul_ediv_add_emod u a, Int.emod_nonneg _ (by omega), Int.lt_trans (Int.emod_lt_of_pos _ (by omega)) f2.2, Int.ediv_nonneg hU0 (by omega), kn_bound f2.1 f3.2 hUD⟩ rfl (fun ⟨q, r⟩ hk => ?_)
  have hk' := hk
  obtain ⟨k1, k2, k3, k4, k5, k6⟩ := hk'
  have hqb : 0 ≤ q * b ∧ q * b ≤ 4294967297 * 4294967295 := ⟨Int.mul_nonneg k5 f3.1, Int.mul_le_mul k6 (by omega) f3.1 (by omega)⟩
  have v1 : IntKind.u64.wrap (q * b) = q * b := by rw [u64_mod]; omega
  have v2 : IntKind.u64.wrap (4294967296 * r) = 4294967296 * r := by rw [u64_mod]; omega
  have v3 : IntKind.u64.wrap (4294967296 * r + y1) = 4294967296 * r + y1 := by rw [u64_mod]; omega
  have v5 : IntKind.u64.wrap (r + a) = r + a := by rw [u64_mod]; omega
  have next := fun hc => kn_next f2.1 f2.2 f3.1 f3.2 hUD f5.1 f5.2 hk hc
  have done := fun hc => kn_done (by omega) f3.1 hk hc
  simp only at next done
  simp only [go_sem, ↓reduceIte, reduceCtorEq, Nat.reduceLT, Nat.reduceLeDiff, Nat.reduceEqDiff, Nat.reduceMul, Nat.reduceAdd, Nat.reduceSub, Int.reduceLE, Int.reduceLT, v1, v2, v3, v5]
  have rnd : 0 < q → Kn u y1 a b (q - 1) (r + a) → Round (fun p : Int × Int => (⟨135, [], [(0, .one (.v (.int .u64 x))), (1, .one (.v (.int .u64 y))), (2, .one (.v (.int .u64 (a * 4294967296 + b)))), (6, .one (.v (.int .u64 0))), (7, .one (.v (.int .u64 0))), (8, .one (.v (.int .u64 s))), (9, .one (.v (.int .u64 a))), (10, .one (.v (.int .u64 b))), (11, .one (.v (.int .u64 u))), (12, .one (.v (.int .u64 Yn))), (13, .one (.v (.int .u64 y1))), (14, .one (.v (.int .u64 y0))), (15, .one (.v (.int .u64 p.1))), (16, .one (.v (.int .u64 p.2))), (17, .none), (18, .none)]⟩ : S)) (fun p => Kn u y1 a b p.1 p.2) (fun p => p.1.toNat) q.toNat
      ⟨135, [], [(0, .one (.v (.int .u64 x))), (1, .one (.v (.int .u64 y))), (2, .one (.v (.int .u64 (a * 4294967296 + b)))), (6, .one (.v (.int .u64 0))), (7, .one (.v (.int .u64 0))), (8, .one (.v (.int .u64 s))), (9, .one (.v (.int .u64 a))), (10, .one (.v (.int .u64 b))), (11, .one (.v (.int .u64 u))), (12, .one (.v (.int .u64 Yn))), (13, .one (.v (.int .u64 y1))), (14, .one (.v (.int .u64 y0))), (15, .one (.v (.int .u64 (IntKind.u64.wrap (q - 1))))), (16, .one (.v (.int .u64 (r + a)))), (17, .none), (18, .none)]⟩ := fun hq hk2 => by
    have v4 : IntKind.u64.wrap (q - 1) = q - 1 := by rw [u64_mod]; omega
    exact Round.mk (q - 1, r + a) hk2 (by show (q - 1).toNat < q.toNat; omega) (by rw [v4]; rfl)
  have w4' : 0 < q → IntKind.u64.wrap (q - 1) = q - 1 := fun h => by rw [u64_mod]; omega
  have rest := kn_rest u y1 (a * 4294967296 + b) ((u * 4294967296 + y1) / (a * 4294967296 + b)) hd0 hD2 rfl
  obtain ⟨g1, g2, g3, g4⟩ := two_div32 (u * 4294967296 + y1) y0 (a * 4294967296 + b) hd0 f6.1 f6.2
  have hQ1 := kn_high (u1 := y1) hd0 hUD f5.2
  have hQ0 : 0 ≤ (u * 4294967296 + y1) / (a * 4294967296 + b) := Int.ediv_nonneg (by omega) (by omega)
  have u2a := Int.emod_nonneg (u * 4294967296 + y1) (by omega : a * 4294967296 + b ≠ 0)
  have u2b := Int.emod_lt_of_pos (u * 4294967296 + y1) hd0
  have td2 : ∀ z : Int, 0 ≤ z → z < 18446744073709551616 → IntKind.u64.wrap (z.tdiv a) = z / a ∧ IntKind.u64.wrap (z - IntKind.u64.wrap (z / a * a)) = z % a := fun z h1 h2 => by
    have e := Int.mul_ediv_add_emod z a
    have r1 := Int.emod_nonneg z (by omega : a ≠ 0)
    have r2 := Int.emod_lt_of_pos z (by omega : 0 < a)
    have q1 := Int.ediv_nonneg h1 (by omega : 0 ≤ a)
    have q2 := Int.ediv_le_self a h1
    rw [Int.mul_comm] at e
    rw [Int.tdiv_eq_ediv_of_nonneg h1, u64_mod, u64_mod, u64_mod]
    generalize z / a * a = p at *
    omega
  obtain ⟨t1, t2⟩ := td2 ((u * 4294967296 + y1) % (a * 4294967296 + b)) u2a (by omega)
  rw [g1, g2]
  generalize hQ : (u * 4294967296 + y1) / (a * 4294967296 + b) = Q at *
  generalize hu2 : (u * 4294967296 + y1) % (a * 4294967296 + b) = u2 at *
  refine ⟨fun h1 => ⟨fun h2 => ⟨fun h3 => ⟨by omega, ?_⟩, fun h3 => rnd (next (.inr h2)).1 ((next (.inr h2)).2.1 (by omega))⟩, fun h2 => ⟨by omega, ?_⟩⟩, fun h1 => ⟨fun h3 => ⟨by omega, ?_⟩, fun h3 => rnd (next (.inl h1)).1 ((next (.inl h1)).2.1 (by omega))⟩⟩
  · obtain ⟨c1, _, c2⟩ := next (.inr h2)
    rw [w4' c1, c2 (by omega)]
    rw [rest, t1, t2, aCode_loop]
    refine aLoop_of (α := Int × Int) (fun p => ⟨135, [], [(0, .one (.v (.int .u64 x))), (1, .one (.v (.int .u64 y))), (2, .one (.v (.int .u64 (a * 4294967296 + b)))), (6, .one (.v (.int .u64 0))), (7, .one (.v (.int .u64 0))), (8, .one (.v (.int .u64 s))), (9, .one (.v (.int .u64 a))), (10, .one (.v (.int .u64 b))), (11, .one (.v (.int .u64 u))), (12, .one (.v (.int .u64 Yn))), (13, .one (.v (.int .u64 y1))), (14, .one (.v (.int .u64 y0))), (15, .one (.v (.int .u64 Q))), (16, .one (.v (.int .u64 p.2))), (17, .one (.v (.int .u64 u2))), (18, .one (.v (.int .u64 p.1)))]⟩)
      (fun p => Kn u2 y0 a b p.1 p.2) (fun p => p.1.toNat) (u2 / a, u2 % a) ⟨kn_init (by omega) f3.1 u2a f6.1 f6.2, by rw [Int.mul_comm]; exact Int.mul_ediv_add_emod u2 a, Int.emod_nonneg _ (by omega), Int.lt_trans (Int.emod_lt_of_pos _ (by omega)) f2.2, Int.ediv_nonneg u2a (by omega), kn_bound f2.1 f3.2 u2b⟩ rfl (fun ⟨q', r'⟩ hl => ?_)
    have hl' := hl
    obtain ⟨l1, l2, l3, l4, l5, l6⟩ := hl'
    have hqb' : 0 ≤ q' * b ∧ q' * b ≤ 4294967297 * 4294967295 := ⟨Int.mul_nonneg l5 f3.1, Int.mul_le_mul l6 (by omega) f3.1 (by omega)⟩
    have x1 : IntKind.u64.wrap (q' * b) = q' * b := by rw [u64_mod]; omega
    have x2 : IntKind.u64.wrap (4294967296 * r') = 4294967296 * r' := by rw [u64_mod]; omega
    have x3 : IntKind.u64.wrap (4294967296 * r' + y0) = 4294967296 * r' + y0 := by rw [u64_mod]; omega
    have x5 : IntKind.u64.wrap (r' + a) = r' + a := by rw [u64_mod]; omega
    have next' := fun hc => kn_next f2.1 f2.2 f3.1 f3.2 u2b f6.1 f6.2 hl hc
    have done' := fun hc => kn_done (by omega) f3.1 hl hc
    simp only at next' done'
    have rnd' : 0 < q' → Kn u2 y0 a b (q' - 1) (r' + a) → Round (fun p : Int × Int => (⟨135, [], [(0, .one (.v (.int .u64 x))), (1, .one (.v (.int .u64 y))), (2, .one (.v (.int .u64 (a * 4294967296 + b)))), (6, .one (.v (.int .u64 0))), (7, .one (.v (.int .u64 0))), (8, .one (.v (.int .u64 s))), (9, .one (.v (.int .u64 a))), (10, .one (.v (.int .u64 b))), (11, .one (.v (.int .u64 u))), (12, .one (.v (.int .u64 Yn))), (13, .one (.v (.int .u64 y1))), (14, .one (.v (.int .u64 y0))), (15, .one (.v (.int .u64 Q))), (16, .one (.v (.int .u64 p.2))), (17, .one (.v (.int .u64 u2))), (18, .one (.v (.int .u64 p.1)))]⟩ : S)) (fun p => Kn u2 y0 a b p.1 p.2) (fun p => p.1.toNat) q'.toNat
        ⟨135, [], [(0, .one (.v (.int .u64 x))), (1, .one (.v (.int .u64 y))), (2, .one (.v (.int .u64 (a * 4294967296 + b)))), (6, .one (.v (.int .u64 0))), (7, .one (.v (.int .u64 0))), (8, .one (.v (.int .u64 s))), (9, .one (.v (.int .u64 a))), (10, .one (.v (.int .u64 b))), (11, .one (.v (.int .u64 u))), (12, .one (.v (.int .u64 Yn))), (13, .one (.v (.int .u64 y1))), (14, .one (.v (.int .u64 y0))), (15, .one (.v (.int .u64 Q))), (16, .one (.v (.int .u64 (r' + a)))), (17, .one (.v (.int .u64 u2))), (18, .one (.v (.int .u64 (IntKind.u64.wrap (q' - 1)))))]⟩ := fun hq hk2 => by
      have v4 : IntKind.u64.wrap (q' - 1) = q' - 1 := by rw [u64_mod]; omega
      exact Round.mk (q' - 1, r' + a) hk2 (by show (q' - 1).toNat < q'.toNat; omega) (by rw [v4]; rfl)
    have w5 : 0 < q' → IntKind.u64.wrap (q' - 1) = q' - 1 := fun h => by rw [u64_mod]; omega
    have rest' := kn_rest u2 y0 (a * 4294967296 + b) ((u2 * 4294967296 + y0) / (a * 4294967296 + b)) hd0 hD2 rfl
    simp only [go_sem, ↓reduceIte, reduceCtorEq, Nat.reduceLT, Nat.reduceLeDiff, Nat.reduceEqDiff, Nat.reduceMul, Nat.reduceAdd, Nat.reduceSub, Int.reduceLE, Int.reduceLT, x1, x2, x3, x5]
    generalize hQ' : (u2 * 4294967296 + y0) / (a * 4294967296 + b) = Q' at *
    have z1 : IntKind.u64.wrap (IntKind.u64.wrap (Q * 4294967296) + Q') = Q * 4294967296 + Q' := by rw [u64_mod, u64_mod]; omega
    refine ⟨fun h1 => ⟨fun h2 => ⟨fun h3 => ⟨by omega, ?_⟩, fun h3 => rnd' (next' (.inr h2)).1 ((next' (.inr h2)).2.1 (by omega))⟩, fun h2 => ⟨by omega, ?_⟩⟩, fun h1 => ⟨fun h3 => ⟨by omega, ?_⟩, fun h3 => rnd' (next' (.inl h1)).1 ((next' (.inl h1)).2.1 (by omega))⟩⟩
    · obtain ⟨c1, _, c2⟩ := next' (.inr h2)
      rw [w5 c1, c2 (by omega), rest', z1, w3, hsh]
    · rw [done' (by omega), rest', z1, w3, hsh]
    · obtain ⟨c1, _, c2⟩ := next' (.inl h1)
      rw [w5 c1, c2 (by omega), rest', z1, w3, hsh]
  · rw [done (by omega)]
    rw [rest, t1, t2, aCode_loop]
    refine aLoop_of (α := Int × Int) (fun p => ⟨135, [], [(0, .one (.v (.int .u64 x))), (1, .one (.v (.int .u64 y))), (2, .one (.v (.int .u64 (a * 4294967296 + b)))), (6, .one (.v (.int .u64 0))), (7, .one (.v (.int .u64 0))), (8, .one (.v (.int .u64 s))), (9, .one (.v (.int .u64 a))), (10, .one (.v (.int .u64 b))), (11, .one (.v (.int .u64 u))), (12, .one (.v (.int .u64 Yn))), (13, .one (.v (.int .u64 y1))), (14, .one (.v (.int .u64 y0))), (15, .one (.v (.int .u64 Q))), (16, .one (.v (.int .u64 p.2))), (17, .one (.v (.int .u64 u2))), (18, .one (.v (.int .u64 p.1)))]⟩)
      (fun p => Kn u2 y0 a b p.1 p.2) (fun p => p.1.toNat) (u2 / a, u2 % a) ⟨kn_init (by omega) f3.1 u2a f6.1 f6.2, by rw [Int.mul_comm]; exact Int.mul_ediv_add_emod u2 a, Int.emod_nonneg _ (by omega), Int.lt_trans (Int.emod_lt_of_pos _ (by omega)) f2.2, Int.ediv_nonneg u2a (by omega), kn_bound f2.1 f3.2 u2b⟩ rfl (fun ⟨q', r'⟩ hl => ?_)
    have hl' := hl
    obtain ⟨l1, l2, l3, l4, l5, l6⟩ := hl'
    have hqb' : 0 ≤ q' * b ∧ q' * b ≤ 4294967297 * 4294967295 := ⟨Int.mul_nonneg l5 f3.1, Int.mul_le_mul l6 (by omega) f3.1 (by omega)⟩
    have x1 : IntKind.u64.wrap (q' * b) = q' * b := by rw [u64_mod]; omega
    have x2 : IntKind.u64.wrap (4294967296 * r') = 4294967296 * r' := by rw [u64_mod]; omega
    have x3 : IntKind.u64.wrap (4294967296 * r' + y0) = 4294967296 * r' + y0 := by rw [u64_mod]; omega
    have x5 : IntKind.u64.wrap (r' + a) = r' + a := by rw [u64_mod]; omega
    have next' := fun hc => kn_next f2.1 f2.2 f3.1 f3.2 u2b f6.1 f6.2 hl hc
    have done' := fun hc => kn_done (by omega) f3.1 hl hc
    simp only at next' done'
    have rnd' : 0 < q' → Kn u2 y0 a b (q' - 1) (r' + a) → Round (fun p : Int × Int => (⟨135, [], [(0, .one (.v (.int .u64 x))), (1, .one (.v (.int .u64 y))), (2, .one (.v (.int .u64 (a * 4294967296 + b)))), (6, .one (.v (.int .u64 0))), (7, .one (.v (.int .u64 0))), (8, .one (.v (.int .u64 s))), (9, .one (.v (.int .u64 a))), (10, .one (.v (.int .u64 b))), (11, .one (.v (.int .u64 u))), (12, .one (.v (.int .u64 Yn))), (13, .one (.v (.int .u64 y1))), (14, .one (.v (.int .u64 y0))), (15, .one (.v (.int .u64 Q))), (16, .one (.v (.int .u64 p.2))), (17, .one (.v (.int .u64 u2))), (18, .one (.v (.int .u64 p.1)))]⟩ : S)) (fun p => Kn u2 y0 a b p.1 p.2) (fun p => p.1.toNat) q'.toNat
        ⟨135, [], [(0, .one (.v (.int .u64 x))), (1, .one (.v (.int .u64 y))), (2, .one (.v (.int .u64 (a * 4294967296 + b)))), (6, .one (.v (.int .u64 0))), (7, .one (.v (.int .u64 0))), (8, .one (.v (.int .u64 s))), (9, .one (.v (.int .u64 a))), (10, .one (.v (.int .u64 b))), (11, .one (.v (.int .u64 u))), (12, .one (.v (.int .u64 Yn))), (13, .one (.v (.int .u64 y1))), (14, .one (.v (.int .u64 y0))), (15, .one (.v (.int .u64 Q))), (16, .one (.v (.int .u64 (r' + a)))), (17, .one (.v (.int .u64 u2))), (18, .one (.v (.int .u64 (IntKind.u64.wrap (q' - 1)))))]⟩ := fun hq hk2 => by
      have v4 : IntKind.u64.wrap (q' - 1) = q' - 1 := by rw [u64_mod]; omega
      exact Round.mk (q' - 1, r' + a) hk2 (by show (q' - 1).toNat < q'.toNat; omega) (by rw [v4]; rfl)
    have w5 : 0 < q' → IntKind.u64.wrap (q' - 1) = q' - 1 := fun h => by rw [u64_mod]; omega
    have rest' := kn_rest u2 y0 (a * 4294967296 + b) ((u2 * 4294967296 + y0) / (a * 4294967296 + b)) hd0 hD2 rfl
    simp only [go_sem, ↓reduceIte, reduceCtorEq, Nat.reduceLT, Nat.reduceLeDiff, Nat.reduceEqDiff, Nat.reduceMul, Nat.reduceAdd, Nat.reduceSub, Int.reduceLE, Int.reduceLT, x1, x2, x3, x5]
    generalize hQ' : (u2 * 4294967296 + y0) / (a * 4294967296 + b) = Q' at *
    have z1 : IntKind.u64.wrap (IntKind.u64.wrap (Q * 4294967296) + Q') = Q * 4294967296 + Q' := by rw [u64_mod, u64_mod]; omega
    refine ⟨fun h1 => ⟨fun h2 => ⟨fun h3 => ⟨by omega, ?_⟩, fun h3 => rnd' (next' (.inr h2)).1 ((next' (.inr h2)).2.1 (by omega))⟩, fun h2 => ⟨by omega, ?_⟩⟩, fun h1 => ⟨fun h3 => ⟨by omega, ?_⟩, fun h3 => rnd' (next' (.inl h1)).1 ((next' (.inl h1)).2.1 (by omega))⟩⟩
    · obtain ⟨c1, _, c2⟩ := next' (.inr h2)
      rw [w5 c1, c2 (by omega), rest', z1, w3, hsh]
    · rw [done' (by omega), rest', z1, w3, hsh]
    · obtain ⟨c1, _, c2⟩ := next' (.inl h1)
      rw [w5 c1, c2 (by omega), rest', z1, w3, hsh]
  · obtain ⟨c1, _, c2⟩ := next (.inl h1)
    rw [w4' c1, c2 (by omega)]
    rw [rest, t1, t2, aCode_loop]
    refine aLoop_of (α := Int × Int) (fun p => ⟨135, [], [(0, .one (.v (.int .u64 x))), (1, .one (.v (.int .u64 y))), (2, .one (.v (.int .u64 (a * 4294967296 + b)))), (6, .one (.v (.int .u64 0))), (7, .one (.v (.int .u64 0))), (8, .one (.v (.int .u64 s))), (9, .one (.v (.int .u64 a))), (10, .one (.v (.int .u64 b))), (11, .one (.v (.int .u64 u))), (12, .one (.v (.int .u64 Yn))), (13, .one (.v (.int .u64 y1))), (14, .one (.v (.int .u64 y0))), (15, .one (.v (.int .u64 Q))), (16, .one (.v (.int .u64 p.2))), (17, .one (.v (.int .u64 u2))), (18, .one (.v (.int .u64 p.1)))]⟩)
      (fun p => Kn u2 y0 a b p.1 p.2) (fun p => p.1.toNat) (u2 / a, u2 % a) ⟨kn_init (by omega) f3.1 u2a f6.1 f6.2, by rw [Int.mul_comm]; exact Int.mul_ediv_add_emod u2 a, Int.emod_nonneg _ (by omega), Int.lt_trans (Int.emod_lt_of_pos _ (by omega)) f2.2, Int.ediv_nonneg u2a (by omega), kn_bound f2.1 f3.2 u2b⟩ rfl (fun ⟨q', r'⟩ hl => ?_)
    have hl' := hl
    obtain ⟨l1, l2, l3, l4, l5, l6⟩ := hl'
    have hqb' : 0 ≤ q' * b ∧ q' * b ≤ 4294967297 * 4294967295 := ⟨Int.mul_nonneg l5 f3.1, Int.mul_le_mul l6 (by omega) f3.1 (by omega)⟩
    have x1 : IntKind.u64.wrap (q' * b) = q' * b := by rw [u64_mod]; omega
    have x2 : IntKind.u64.wrap (4294967296 * r') = 4294967296 * r' := by rw [u64_mod]; omega
    have x3 : IntKind.u64.wrap (4294967296 * r' + y0) = 4294967296 * r' + y0 := by rw [u64_mod]; omega
    have x5 : IntKind.u64.wrap (r' + a) = r' + a := by rw [u64_mod]; omega
    have next' := fun hc => kn_next f2.1 f2.2 f3.1 f3.2 u2b f6.1 f6.2 hl hc
    have done' := fun hc => kn_done (by omega) f3.1 hl hc
    simp only at next' done'
    have rnd' : 0 < q' → Kn u2 y0 a b (q' - 1) (r' + a) → Round (fun p : Int × Int => (⟨135, [], [(0, .one (.v (.int .u64 x))), (1, .one (.v (.int .u64 y))), (2, .one (.v (.int .u64 (a * 4294967296 + b)))), (6, .one (.v (.int .u64 0))), (7, .one (.v (.int .u64 0))), (8, .one (.v (.int .u64 s))), (9, .one (.v (.int .u64 a))), (10, .one (.v (.int .u64 b))), (11, .one (.v (.int .u64 u))), (12, .one (.v (.int .u64 Yn))), (13, .one (.v (.int .u64 y1))), (14, .one (.v (.int .u64 y0))), (15, .one (.v (.int .u64 Q))), (16, .one (.v (.int .u64 p.2))), (17, .one (.v (.int .u64 u2))), (18, .one (.v (.int .u64 p.1)))]⟩ : S)) (fun p => Kn u2 y0 a b p.1 p.2) (fun p => p.1.toNat) q'.toNat
        ⟨135, [], [(0, .one (.v (.int .u64 x))), (1, .one (.v (.int .u64 y))), (2, .one (.v (.int .u64 (a * 4294967296 + b)))), (6, .one (.v (.int .u64 0))), (7, .one (.v (.int .u64 0))), (8, .one (.v (.int .u64 s))), (9, .one (.v (.int .u64 a))), (10, .one (.v (.int .u64 b))), (11, .one (.v (.int .u64 u))), (12, .one (.v (.int .u64 Yn))), (13, .one (.v (.int .u64 y1))), (14, .one (.v (.int .u64 y0))), (15, .one (.v (.int .u64 Q))), (16, .one (.v (.int .u64 (r' + a)))), (17, .one (.v (.int .u64 u2))), (18, .one (.v (.int .u64 (IntKind.u64.wrap (q' - 1)))))]⟩ := fun hq hk2 => by
      have v4 : IntKind.u64.wrap (q' - 1) = q' - 1 := by rw [u64_mod]; omega
      exact Round.mk (q' - 1, r' + a) hk2 (by show (q' - 1).toNat < q'.toNat; omega) (by rw [v4]; rfl)
    have w5 : 0 < q' → IntKind.u64.wrap (q' - 1) = q' - 1 := fun h => by rw [u64_mod]; omega
    have rest' := kn_rest u2 y0 (a * 4294967296 + b) ((u2 * 4294967296 + y0) / (a * 4294967296 + b)) hd0 hD2 rfl
    simp only [go_sem, ↓reduceIte, reduceCtorEq, Nat.reduceLT, Nat.reduceLeDiff, Nat.reduceEqDiff, Nat.reduceMul, Nat.reduceAdd, Nat.reduceSub, Int.reduceLE, Int.reduceLT, x1, x2, x3, x5]
    generalize hQ' : (u2 * 4294967296 + y0) / (a * 4294967296 + b) = Q' at *
    have z1 : IntKind.u64.wrap (IntKind.u64.wrap (Q * 4294967296) + Q') = Q * 4294967296 + Q' := by rw [u64_mod, u64_mod]; omega
    refine ⟨fun h1 => ⟨fun h2 => ⟨fun h3 => ⟨by omega, ?_⟩, fun h3 => rnd' (next' (.inr h2)).1 ((next' (.inr h2)).2.1 (by omega))⟩, fun h2 => ⟨by omega, ?_⟩⟩, fun h1 => ⟨fun h3 => ⟨by omega, ?_⟩, fun h3 => rnd' (next' (.inl h1)).1 ((next' (.inl h1)).2.1 (by omega))⟩⟩
    · obtain ⟨c1, _, c2⟩ := next' (.inr h2)
      rw [w5 c1, c2 (by omega), rest', z1, w3, hsh]
    · rw [done' (by omega), rest', z1, w3, hsh]
    · obtain ⟨c1, _, c2⟩ := next' (.inl h1)
      rw [w5 c1, c2 (by omega), rest', z1, w3, hsh]
theorem div64I (x y d : Int) (hx : 0 ≤ x) (hxd : x < d) (hy : 0 ≤ y) (hy2 : y < 18446744073709551616) (hd : 0 < d) (hd2 : d < 18446744073709551616) : FSpec Try.prog 61 [(false, [.v (.int .u64 x)]), (false, [.v (.int .u64 y)]), (false, [.v (.int .u64 d)])] [.one (.d (.v (.int .u64 ((x * 18446744073709551616 + y) / d)))), .one (.d (.v (.int .u64 ((x * 18446744073709551616 + y) % d))))] := by
  by_cases h0 : x = 0
  · subst h0
    rw [Int.zero_mul, Int.zero_add]
    exact div64_low y d hy hy2 hd hd2
  · have h := div64_high x.toNat y.toNat d.toNat (by omega) (by omega) (by omega) (by omega)
    simp only [Int.natCast_ediv, Int.natCast_emod, Int.natCast_add, Int.natCast_mul, Int.toNat_of_nonneg hx, Int.toNat_of_nonneg hy, Int.toNat_of_nonneg (Int.le_of_lt hd)] at h
    exact h
end Go.Ax
