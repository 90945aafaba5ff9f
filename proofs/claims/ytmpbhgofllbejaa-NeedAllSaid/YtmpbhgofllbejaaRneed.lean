/- What any positions and open orders want: the law told over the contracts. -/
import Derived.Test.YtmpbhgofllbejaaLa
import Derived.Test.YtmpbhgofllbejaaPtold14legs
import Derived.Test.YtmpbhgofllbejaaPtold14opens
import Derived.Test.YtmpbhgofllbejaaPtold14inst
import Derived.Test.YtmpbhgofllbejaaPtold14ok
import Derived.Test.YtmpbhgofllbejaaGi
import Derived.Test.YtmpbhgofllbejaaWa
import Derived.Test.YtmpbhgofllbejaaWb
import Derived.Test.YtmpbhgofllbejaaWc
import Derived.Test.YtmpbhgofllbejaaWd
import Derived.Test.YtmpbhgofllbejaaWe
set_option linter.unusedVariables false
set_option linter.unusedSimpArgs false
set_option linter.unusedVariables false
set_option linter.unusedSimpArgs false
set_option maxRecDepth 100000
namespace Go.Ax
open Go Go.Proofs
theorem rNeedOf_eq {c : api_Config} {l : List api_Leg} (hn : c.Insts.length < 2 ^ 59) (hl : l.length < 2 ^ 59) (hI : LegI l) : novationref10_NeedOf.f c l = some (if legsOk c l = true then (sumBy c (·.Rate) l l.length, 0) else (0, 1)) := by
  simp [novationref10_NeedOf.f, byRate_eq false hn hl hI]
theorem rSlip_eq {c : api_Config} {l : List api_Leg} (hn : c.Insts.length < 2 ^ 59) (hl : l.length < 2 ^ 59) (hI : LegI l) : novationref10_Slip.f c l = some (if legsOk c l = true then (sumBy c (·.Slip) l l.length, 0) else (0, 1)) := by
  simp [novationref10_Slip.f, byRate_eq true hn hl hI]
theorem hwide_same {z : Int} (h : Wid z) : novationhelp_Wide.f z z = some true := by
  unfold novationhelp_Wide.f
  have t : (340282366920938463463374607431768211456 : Nat) < 2 ^ 250 := by decide
  rw [if_pos ⟨h, bigOk_of (by simp only [Wid] at h; omega)⟩]
  simp
theorem told14 {c : api_Config} {l : List api_Leg} {o : List api_Open} {inst sum w : Int} (hn : c.Insts.length < 2 ^ 59) (hl : l.length < 2 ^ 59) (ho : o.length < 2 ^ 59) (hI : LegI l) (hs : I64 sum) :
    FSpec Try.prog 31 [(true, api_Config.D c), (false, [.l (rowsD api_Leg.D l)]), (false, [.l (rowsD api_Open.D o)]), (false, [.v (.int .i64 inst)]), (false, [.v (.int .i64 sum)]), (true, wD w)] [.one (.d (.v (.bool true)))] := by
  have a1 := need_by_Of_eq hn hl hI
  have a2 := rNeedOf_eq hn hl hI
  have a3 := need_by_Slip_eq hn hl hI
  have a4 := rSlip_eq hn hl hI
  have a5 := need_Top_eq hn hl ho hI inst
  have a6 := rTop_eq hn hl ho hI inst
  have a7 := need_Worst_eq hn hl ho hI
  have a8 := rWorst_eq hn hl ho hI
  have b1 := need_Legs.spec (need_Legs_eq c l hn hl)
  have b2 := novationref10_Legs.spec (rLegs_eq c l hn hl)
  have b3 := need_Opens.spec (need_Opens_eq c o hn ho)
  have b4 := novationref10_OpensRight.spec (rOpens_eq c o hn ho)
  have b5 := need_Covers.spec (need_Covers_eq sum w hs)
  have b6 : FSpec Try.prog 62 _ _ := wide_Of.spec (show wide_Of.f sum = some sum by unfold wide_Of.f; rw [if_pos hs])
  have b7 : FSpec Try.prog 97 _ _ := wide_Cmp.spec (show wide_Cmp.f sum w = some (cmpI sum w) from rfl)
  have ec : (decide (cmpI sum w ≥ 0) == decide (cmpI sum w ≥ 0)) = true := by simp
  unfold topAns at a5 a6
  unfold worstAns at a7 a8
  by_cases h1 : legsOk c l = true
  · rw [if_pos h1] at a1 a2 a3 a4
    have m1 := sumBy_bound h1 hI (·.Rate) (fun x hx => (instOk_rate hx).1) l.length (Nat.le_refl _)
    have m2 := sumBy_bound h1 hI (·.Slip) (fun x hx => (instOk_rate hx).2) l.length (Nat.le_refl _)
    have h6 := legs_few h1
    have w1 := novationhelp_Wide.spec (hwide_same (z := sumBy c (·.Rate) l l.length) (by simp only [Wid]; omega))
    have w2 := novationhelp_Wide.spec (hwide_same (z := sumBy c (·.Slip) l l.length) (by simp only [Wid]; omega))
    by_cases h2 : opensOk c o = true
    · have hk : legsOk c l = true ∧ opensOk c o = true := ⟨h1, h2⟩
      rw [if_pos hk] at a5 a6 a7 a8
      have m4 := wSum_bound h2 hI c.Insts.length (Nat.le_refl _)
      obtain ⟨_, _, h6c⟩ := planOk_inst (opensOk_open h2).2
      have w4 := novationhelp_Wide.spec (hwide_same (z := wSum c l o c.Insts.length) (by simp only [Wid]; omega))
      by_cases h3 : inst < 0 ∨ inst ≥ (c.Insts.length : Int)
      · rw [if_pos h3] at a5 a6
        have := told14_inst (need_Of.spec a1) (novationref10_NeedOf.spec a2) (need_Slip.spec a3) (novationref10_Slip.spec a4) (need_Top.spec a5) (novationref10_Top.spec a6) (need_Worst.spec a7) (novationref10_Worst.spec a8)
          (by simp) (by simp) (by simp) (by simp) (by simp) w1 rfl (by simp) w2 rfl (by simp) (by simp) w4 rfl rfl (by simp) (by simp) b1 b2 rfl b3 b4 rfl b5 b6 b7
        rw [ec] at this
        exact this
      · rw [if_neg h3] at a5 a6
        have m3 := top_bound h2 hI inst
        have w3 := novationhelp_Wide.spec (hwide_same (z := topOf l o inst) (by simp only [Wid]; omega))
        have := told14_ok (need_Of.spec a1) (novationref10_NeedOf.spec a2) (need_Slip.spec a3) (novationref10_Slip.spec a4) (need_Top.spec a5) (novationref10_Top.spec a6) (need_Worst.spec a7) (novationref10_Worst.spec a8)
          (by simp) (by simp) (by simp) (by simp) (by simp) w1 rfl (by simp) w2 rfl (by simp) w3 rfl (by simp) w4 rfl rfl rfl b1 b2 rfl b3 b4 rfl b5 b6 b7
        rw [ec] at this
        exact this
    · have hk : ¬ (legsOk c l = true ∧ opensOk c o = true) := fun h => h2 h.2
      rw [if_neg hk] at a5 a6 a7 a8
      have := told14_opens (need_Of.spec a1) (novationref10_NeedOf.spec a2) (need_Slip.spec a3) (novationref10_Slip.spec a4) (need_Top.spec a5) (novationref10_Top.spec a6) (need_Worst.spec a7) (novationref10_Worst.spec a8)
        (by simp) (by simp) (by simp) (by simp) (by simp) w1 rfl (by simp) w2 rfl (by simp) (by simp) rfl (by simp) (by simp) b1 b2 rfl b3 b4 rfl b5 b6 b7
      rw [ec] at this
      exact this
  · rw [if_neg h1] at a1 a2 a3 a4
    have hk : ¬ (legsOk c l = true ∧ opensOk c o = true) := fun h => h1 h.1
    rw [if_neg hk] at a5 a6 a7 a8
    have := told14_legs (need_Of.spec a1) (novationref10_NeedOf.spec a2) (need_Slip.spec a3) (novationref10_Slip.spec a4) (need_Top.spec a5) (novationref10_Top.spec a6) (need_Worst.spec a7) (novationref10_Worst.spec a8)
      (by simp) (by simp) (by simp) (by simp) (by simp) (by simp) (by simp) (by simp) (by simp) (by simp) (by simp) (by simp) b1 b2 rfl b3 b4 rfl b5 b6 b7
    rw [ec] at this
    exact this
end Go.Ax
