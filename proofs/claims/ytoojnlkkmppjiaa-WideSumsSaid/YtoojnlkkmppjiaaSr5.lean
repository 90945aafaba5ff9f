/- The row of WideSums. -/
import Derived.Test.YtoojnlkkmppjiaaSr00
import Derived.Test.YtoojnlkkmppjiaaSe4
set_option linter.unusedVariables false
set_option linter.unusedSimpArgs false
set_option linter.unusedVariables false
namespace Go.Proofs.Ytoojnlkkmppjiaa
open Go Go.Ax Go.ChangeShapes Go.WideShapes Go.ChangeAt Go.RowKit
set_option maxRecDepth 100000 in
theorem wideSums_lifted (os : Os) (started : os.Started) (H : Type) (enc : TypeId × Value → H) :
    ReturnsInHanded {} Try.checked os 8 .any (Rows.wideSumsSpec.pre6 enc Try.prog Try.f8 Rows.wideSumsRow.domain false) (Rows.wideSumsSpec.post enc Try.prog Try.f8 false true false false) := by
  refine returnsInHanded_of_change_sized (C := Try.checked) own started (by kernel_rfl) Try.func8
    (ChangeSpec.witness6 (enc := enc) (C := Try.checked) false ⟨#[], #[.slice none 0 0], []⟩ 8 (by kernel_rfl) (by kernel_rfl) (by kernel_rfl) (by kernel_rfl)) ?_
  intro W base args ds gs before hval hW _ hsz _
  refine law_contract laidOut Try.func8 (by kernel_rfl) (by decide) rfl (tb := 4) rfl und_4 3 (by kernel_rfl) ?_ ?_ hval hW hsz
  · intro H ds hl
    match ds, hl with
    | [d1], _ => rfl
  · rintro dss ⟨⟨i0, a0⟩, _, rfl, e0, h0, rfl⟩
    simp only [agg_60] at e0
    subst e0
    obtain ⟨l, rfl, hl, nl⟩ := isT_wides h0
    exact wideSums_spec l hl nl
theorem wideSums_holds : Rows.WideSumsSaid :=
  OpenClaim.holds_of_wide 8 Try.f8 rfl rfl rfl rfl rfl rfl rfl ⟨rfl, rfl, rfl, rfl, rfl⟩ rfl rfl rfl rfl rfl (by kernel_rfl) Try.func8 (by kernel_rfl)
    (of_decide_eq_true (by kernel_rfl)) (by unfold Func.isWrapper; first | (rw [if_pos (by decide +kernel)]; kernel_rfl) | (rw [if_neg (by decide +kernel)]; exact ⟨rfl, rfl⟩))
    (fun os started H enc _ => wideSums_lifted os started H enc)
#print axioms wideSums_holds
end Go.Proofs.Ytoojnlkkmppjiaa
