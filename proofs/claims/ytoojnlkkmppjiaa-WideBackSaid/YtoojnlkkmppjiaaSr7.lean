/- The row of WideBack. -/
import Derived.Test.YtoojnlkkmppjiaaSr00
import Derived.Test.YtoojnlkkmppjiaaSe4
set_option linter.unusedVariables false
set_option linter.unusedSimpArgs false
set_option linter.unusedVariables false
namespace Go.Proofs.Ytoojnlkkmppjiaa
open Go Go.Ax Go.ChangeShapes Go.WideShapes Go.ChangeAt Go.RowKit
set_option maxRecDepth 100000 in
theorem wideBack_lifted (os : Os) (started : os.Started) (H : Type) (enc : TypeId × Value → H) :
    ReturnsInHanded {} Try.checked os 10 .any (Rows.wideBackSpec.pre6 enc Try.prog Try.f10 Rows.wideBackRow.domain false) (Rows.wideBackSpec.post enc Try.prog Try.f10 false true false false) := by
  refine returnsInHanded_of_change_sized (C := Try.checked) own started (by kernel_rfl) Try.func10
    (ChangeSpec.witness6 (enc := enc) (C := Try.checked) false ⟨#[], #[.agg #[.int .i64 0, .int .u64 0], .int .i64 0], []⟩ 8 (by kernel_rfl) (by kernel_rfl) (by kernel_rfl) (by kernel_rfl)) ?_
  intro W base args ds gs before hval hW _ hsz _
  refine law_contract laidOut Try.func10 (by kernel_rfl) (by decide) rfl (tb := 4) rfl und_4 3 (by kernel_rfl) ?_ ?_ hval hW hsz
  · intro H ds hl
    match ds, hl with
    | [d1, d2], _ => rfl
  · rintro dss ⟨⟨i0, a0⟩, _, rfl, e0, h0, ⟨⟨i1, a1⟩, _, rfl, e1, h1, rfl⟩⟩
    simp only [agg_2, agg_44] at e0 e1
    subst e0 e1
    obtain ⟨w, rfl, hw⟩ := isT_wide h0
    obtain ⟨d, rfl, hd⟩ := isT_i64 h1
    exact wideBack_spec w d hw hd
theorem wideBack_holds : Rows.WideBackSaid :=
  OpenClaim.holds_of_wide 10 Try.f10 rfl rfl rfl rfl rfl rfl rfl ⟨rfl, rfl, rfl, rfl, rfl⟩ rfl rfl rfl rfl rfl (by kernel_rfl) Try.func10 (by kernel_rfl)
    (of_decide_eq_true (by kernel_rfl)) (by unfold Func.isWrapper; first | (rw [if_pos (by decide +kernel)]; kernel_rfl) | (rw [if_neg (by decide +kernel)]; exact ⟨rfl, rfl⟩))
    (fun os started H enc _ => wideBack_lifted os started H enc)
#print axioms wideBack_holds
end Go.Proofs.Ytoojnlkkmppjiaa
