/- The row of MarkTrades. -/
import Derived.Test.YtmpbhgofllbejaaRmtrade
import Derived.Test.YtmpbhgofllbejaaGi
import Derived.Test.YtmpbhgofllbejaaLibF
import Derived.Test.YtmpbhgofllbejaaRows
set_option linter.unusedVariables false
set_option linter.unusedSimpArgs false
set_option linter.unusedVariables false
namespace Go.Proofs.Ytmpbhgofllbejaa
open Go Go.Ax Go.ChangeShapes Go.WideShapes Go.ChangeAt Go.RowKit
theorem own : ownKnob Try.prog.godebug = none := by kernel_rfl
theorem laidOut : laidOutB Try.prog = true := by kernel_rfl
set_option maxRecDepth 100000 in
theorem markTrades_lifted (os : Os) (started : os.Started) (H : Type) (enc : TypeId × Value → H) :
    ReturnsInHanded {} Try.checked os 5 .any (Rows.markTradesSpec.pre6 enc Try.prog Try.f5 Rows.markTradesRow.domain false) (Rows.markTradesSpec.post enc Try.prog Try.f5 false true false false) := by
  refine returnsInHanded_of_change_sized (C := Try.checked) own started (by kernel_rfl) Try.func5
    (ChangeSpec.witness6 (enc := enc) (C := Try.checked) false ⟨#[], #[.agg #[.int .i64 0, .int .i64 0, .int .i64 0, .int .i64 0, .int .i64 0], .int .i64 0, .slice none 0 0], []⟩ 8 (by kernel_rfl) (by kernel_rfl) (by kernel_rfl) (by kernel_rfl)) ?_
  intro W base args ds gs before hval hW _ hsz _
  refine law_contract laidOut Try.func5 (by kernel_rfl) (by decide) rfl (tb := 4) rfl und_4 12 (by kernel_rfl) ?_ ?_ hval hW hsz
  · intro H ds hl
    match ds, hl with
    | [d1, d2, d3], _ => rfl
  · rintro dss ⟨⟨i0, a0⟩, _, rfl, e0, h0, ⟨⟨i1, a1⟩, _, rfl, e1, h1, ⟨⟨i2, a2⟩, _, rfl, e2, h2, rfl⟩⟩⟩
    simp only [agg_2, agg_43, agg_44] at e0 e1 e2
    subst e0 e1 e2
    obtain ⟨x0, rfl, p0⟩ := isT_api_Trade h0
    obtain ⟨x1, rfl, p1⟩ := isT_i64 und_2 h1
    obtain ⟨x2, rfl, p2, q2⟩ := isT_l44 h2
    exact markTrades_spec x0 x1 p2
theorem markTrades_holds : Rows.MarkTradesSaid :=
  OpenClaim.holds_of_wide 5 Try.f5 rfl rfl rfl rfl rfl rfl rfl ⟨rfl, rfl, rfl, rfl, rfl⟩ rfl rfl rfl rfl rfl (by kernel_rfl) Try.func5 (by kernel_rfl)
    (of_decide_eq_true (by kernel_rfl)) (by unfold Func.isWrapper; first | (rw [if_pos (by decide +kernel)]; kernel_rfl) | (rw [if_neg (by decide +kernel)]; exact ⟨rfl, rfl⟩))
    (fun os started H enc _ => markTrades_lifted os started H enc)
#print axioms markTrades_holds
end Go.Proofs.Ytmpbhgofllbejaa
