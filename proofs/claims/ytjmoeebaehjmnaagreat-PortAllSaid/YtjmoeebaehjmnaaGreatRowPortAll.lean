/- The row of PortAll. -/
import Derived.Test.YtjmoeebaehjmnaaGreatRport
import Derived.Test.YtjmoeebaehjmnaaGreatGi
import Derived.Test.YtjmoeebaehjmnaaGreatLibF
import Derived.Test.YtjmoeebaehjmnaaGreatRows
set_option linter.unusedVariables false
set_option linter.unusedSimpArgs false
set_option linter.unusedVariables false
namespace Go.Proofs.YtjmoeebaehjmnaaGreat
open Go Go.Ax Go.ChangeShapes Go.WideShapes Go.ChangeAt Go.RowKit
theorem own : ownKnob Tryz.prog.godebug = none := by kernel_rfl
theorem laidOut : laidOutB Tryz.prog = true := by kernel_rfl
set_option maxRecDepth 100000 in
theorem portAll_lifted (os : Os) (started : os.Started) (H : Type) (enc : TypeId × Value → H) :
    ReturnsInHanded {} Tryz.checked os 3 .any (Rows.portAllSpec.pre6 enc Tryz.prog Tryz.f3 Rows.portAllRow.domain false) (Rows.portAllSpec.post enc Tryz.prog Tryz.f3 false true false false) := by
  refine returnsInHanded_of_change_sized (C := Tryz.checked) own started (by kernel_rfl) Tryz.func3
    (ChangeSpec.witness6 (enc := enc) (C := Tryz.checked) false ⟨#[], #[.agg #[.slice none 0 0, .int .i64 0, .int .i64 0, .int .i64 0, .int .i64 0, .int .i64 0, .int .i64 0], .agg #[.slice none 0 0, .slice none 0 0, .slice none 0 0, .slice none 0 0, .slice none 0 0, .slice none 0 0], .int .i64 0, .int .i64 0, .int .i64 0], []⟩ 8 (by kernel_rfl) (by kernel_rfl) (by kernel_rfl) (by kernel_rfl)) ?_
  intro W base args ds gs before hval hW _ hsz _
  refine law_contract laidOut Tryz.func3 (by kernel_rfl) (by decide) rfl (tb := 4) rfl und_4 12 (by kernel_rfl) ?_ ?_ hval hW hsz
  · intro H ds hl
    match ds, hl with
    | [d1, d2, d3, d4, d5], _ => rfl
  · rintro dss ⟨⟨i0, a0⟩, _, rfl, e0, h0, ⟨⟨i1, a1⟩, _, rfl, e1, h1, ⟨⟨i2, a2⟩, _, rfl, e2, h2, ⟨⟨i3, a3⟩, _, rfl, e3, h3, ⟨⟨i4, a4⟩, _, rfl, e4, h4, rfl⟩⟩⟩⟩⟩
    simp only [agg_24, agg_3, agg_32] at e0 e1 e2 e3 e4
    subst e0 e1 e2 e3 e4
    obtain ⟨x0, rfl, p0⟩ := isT_api_Config h0
    obtain ⟨x1, rfl, p1⟩ := isT_api_Book h1
    obtain ⟨x2, rfl, p2⟩ := isT_i64 und_3 h2
    obtain ⟨x3, rfl, p3⟩ := isT_i64 und_3 h3
    obtain ⟨x4, rfl, p4⟩ := isT_i64 und_3 h4
    exact portAll_spec p1 x2 x3 x4
theorem portAll_holds : Rows.PortAllSaid :=
  OpenClaim.holds_of_wide 3 Tryz.f3 rfl rfl rfl rfl rfl rfl rfl ⟨rfl, rfl, rfl, rfl, rfl⟩ rfl rfl rfl rfl rfl (by kernel_rfl) Tryz.func3 (by kernel_rfl)
    (of_decide_eq_true (by kernel_rfl)) (by unfold Func.isWrapper; first | (rw [if_pos (by decide +kernel)]; kernel_rfl) | (rw [if_neg (by decide +kernel)]; exact ⟨rfl, rfl⟩))
    (fun os started H enc _ => portAll_lifted os started H enc)
#print axioms portAll_holds
end Go.Proofs.YtjmoeebaehjmnaaGreat
