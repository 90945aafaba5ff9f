/- The row of WideAll. -/
import Derived.Test.YtoojnlkkmppjiaaSr00
import Derived.Test.YtoojnlkkmppjiaaSe5
set_option linter.unusedVariables false
set_option linter.unusedSimpArgs false
set_option linter.unusedVariables false
namespace Go.Proofs.Ytoojnlkkmppjiaa
open Go Go.Ax Go.ChangeShapes Go.WideShapes Go.ChangeAt Go.RowKit
set_option maxRecDepth 100000 in
theorem wideAll_lifted (os : Os) (started : os.Started) (H : Type) (enc : TypeId × Value → H) :
    ReturnsInHanded {} Try.checked os 7 .any (Rows.wideAllSpec.pre6 enc Try.prog Try.f7 Rows.wideAllRow.domain false) (Rows.wideAllSpec.post enc Try.prog Try.f7 false true false false) := by
  refine returnsInHanded_of_change_sized (C := Try.checked) own started (by kernel_rfl) Try.func7
    (ChangeSpec.witness6 (enc := enc) (C := Try.checked) false ⟨#[], #[.agg #[.int .i64 0, .int .u64 0], .agg #[.int .i64 0, .int .u64 0], .int .i64 0, .int .i64 0], []⟩ 8 (by kernel_rfl) (by kernel_rfl) (by kernel_rfl) (by kernel_rfl)) ?_
  intro W base args ds gs before hval hW _ hsz _
  refine law_contract laidOut Try.func7 (by kernel_rfl) (by decide) rfl (tb := 4) rfl und_4 3 (by kernel_rfl) ?_ ?_ hval hW hsz
  · intro H ds hl
    match ds, hl with
    | [d1, d2, d3, d4], _ => rfl
  · rintro dss ⟨⟨i0, a0⟩, _, rfl, e0, h0, ⟨⟨i1, a1⟩, _, rfl, e1, h1, ⟨⟨i2, a2⟩, _, rfl, e2, h2, ⟨⟨i3, a3⟩, _, rfl, e3, h3, rfl⟩⟩⟩⟩
    simp only [agg_2, agg_44] at e0 e1 e2 e3
    subst e0 e1 e2 e3
    obtain ⟨a, rfl, ha⟩ := isT_wide h0
    obtain ⟨b, rfl, hb⟩ := isT_wide h1
    obtain ⟨x, rfl, hx⟩ := isT_i64 h2
    obtain ⟨y, rfl, hy⟩ := isT_i64 h3
    exact wideAll_spec a b x y ha hb hx hy
theorem wideAll_holds : Rows.WideAllSaid :=
  OpenClaim.holds_of_wide 7 Try.f7 rfl rfl rfl rfl rfl rfl rfl ⟨rfl, rfl, rfl, rfl, rfl⟩ rfl rfl rfl rfl rfl (by kernel_rfl) Try.func7 (by kernel_rfl)
    (of_decide_eq_true (by kernel_rfl)) (by unfold Func.isWrapper; first | (rw [if_pos (by decide +kernel)]; kernel_rfl) | (rw [if_neg (by decide +kernel)]; exact ⟨rfl, rfl⟩))
    (fun os started H enc _ => wideAll_lifted os started H enc)
#print axioms wideAll_holds
end Go.Proofs.Ytoojnlkkmppjiaa
