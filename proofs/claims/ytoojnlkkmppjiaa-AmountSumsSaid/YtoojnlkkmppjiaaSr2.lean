/- The row of AmountSums. -/
import Derived.Test.YtoojnlkkmppjiaaSr0
set_option linter.unusedVariables false
set_option linter.unusedSimpArgs false
set_option linter.unusedVariables false
namespace Go.Proofs.Ytoojnlkkmppjiaa
open Go Go.Ax Go.ChangeShapes Go.WideShapes Go.ChangeAt Go.RowKit
set_option maxRecDepth 100000 in
theorem amountSums_lifted (os : Os) (started : os.Started) (H : Type) (enc : TypeId × Value → H) :
    ReturnsInHanded {} Try.checked os 4 .any (Rows.amountSumsSpec.pre6 enc Try.prog Try.f4 Rows.amountSumsRow.domain false) (Rows.amountSumsSpec.post enc Try.prog Try.f4 false true false false) := by
  refine returnsInHanded_of_change_sized (C := Try.checked) own started (by kernel_rfl) Try.func4
    (ChangeSpec.witness6 (enc := enc) (C := Try.checked) false ⟨#[], #[.slice none 0 0], []⟩ 8 (by kernel_rfl) (by kernel_rfl) (by kernel_rfl) (by kernel_rfl)) ?_
  intro W base args ds gs before hval hW _ hsz _
  refine law_contract laidOut Try.func4 (by kernel_rfl) (by decide) rfl (tb := 4) rfl Try.underlying4 3 (by kernel_rfl) ?_ ?_ hval hW hsz
  · intro H ds hl
    match ds, hl with
    | [d1], _ => rfl
  · rintro dss ⟨⟨i0, a0⟩, _, rfl, e0, h0, rfl⟩
    simp only [isAggT, Try.underlying36] at e0
    subst e0
    obtain ⟨l, rfl, hl, nl⟩ := isT_ints h0
    exact amountSums_spec l hl nl
theorem amountSums_holds : Rows.AmountSumsSaid :=
  OpenClaim.holds_of_wide 4 Try.f4 rfl rfl rfl rfl rfl rfl rfl ⟨rfl, rfl, rfl, rfl, rfl⟩ rfl rfl rfl rfl rfl (by kernel_rfl) Try.func4 (by kernel_rfl)
    (of_decide_eq_true (by kernel_rfl)) (by unfold Func.isWrapper; first | (rw [if_pos (by decide +kernel)]; kernel_rfl) | (rw [if_neg (by decide +kernel)]; exact ⟨rfl, rfl⟩))
    (fun os started H enc _ => amountSums_lifted os started H enc)
#print axioms amountSums_holds
end Go.Proofs.Ytoojnlkkmppjiaa
