/- The row of AmountOrder. -/
import Derived.Test.YtoojnlkkmppjiaaSr0
set_option linter.unusedVariables false
set_option linter.unusedSimpArgs false
set_option linter.unusedVariables false
namespace Go.Proofs.Ytoojnlkkmppjiaa
open Go Go.Ax Go.ChangeShapes Go.WideShapes Go.ChangeAt Go.RowKit
set_option maxRecDepth 100000 in
theorem amountOrder_lifted (os : Os) (started : os.Started) (H : Type) (enc : TypeId × Value → H) :
    ReturnsInHanded {} Try.checked os 6 .any (Rows.amountOrderSpec.pre6 enc Try.prog Try.f6 Rows.amountOrderRow.domain false) (Rows.amountOrderSpec.post enc Try.prog Try.f6 false true false false) := by
  refine returnsInHanded_of_change_sized (C := Try.checked) own started (by kernel_rfl) Try.func6
    (ChangeSpec.witness6 (enc := enc) (C := Try.checked) false ⟨#[], #[.int .i64 0, .int .i64 0, .slice none 0 0], []⟩ 8 (by kernel_rfl) (by kernel_rfl) (by kernel_rfl) (by kernel_rfl)) ?_
  intro W base args ds gs before hval hW _ hsz _
  refine law_contract laidOut Try.func6 (by kernel_rfl) (by decide) rfl (tb := 4) rfl Try.underlying4 3 (by kernel_rfl) ?_ ?_ hval hW hsz
  · intro H ds hl
    match ds, hl with
    | [d1, d2, d3], _ => rfl
  · rintro dss ⟨⟨i0, a0⟩, _, rfl, e0, h0, ⟨⟨i1, a1⟩, _, rfl, e1, h1, ⟨⟨i2, a2⟩, _, rfl, e2, h2, rfl⟩⟩⟩
    simp only [isAggT, Try.underlying2, Try.underlying36] at e0 e1 e2
    subst e0 e1 e2
    obtain ⟨a, rfl, ha⟩ := isT_i64 h0
    obtain ⟨b, rfl, hb⟩ := isT_i64 h1
    obtain ⟨l, rfl, hl, nl⟩ := isT_ints h2
    exact amountOrder_spec a b ha hb l hl nl
theorem amountOrder_holds : Rows.AmountOrderSaid :=
  OpenClaim.holds_of_wide 6 Try.f6 rfl rfl rfl rfl rfl rfl rfl ⟨rfl, rfl, rfl, rfl, rfl⟩ rfl rfl rfl rfl rfl (by kernel_rfl) Try.func6 (by kernel_rfl)
    (of_decide_eq_true (by kernel_rfl)) (by unfold Func.isWrapper; first | (rw [if_pos (by decide +kernel)]; kernel_rfl) | (rw [if_neg (by decide +kernel)]; exact ⟨rfl, rfl⟩))
    (fun os started H enc _ => amountOrder_lifted os started H enc)
#print axioms amountOrder_holds
end Go.Proofs.Ytoojnlkkmppjiaa
