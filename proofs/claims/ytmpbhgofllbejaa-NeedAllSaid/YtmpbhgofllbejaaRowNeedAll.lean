/- The row of NeedAll. -/
import Derived.Test.YtmpbhgofllbejaaRneed2
import Derived.Test.YtmpbhgofllbejaaGi
import Derived.Test.YtmpbhgofllbejaaLibF
import Derived.Test.YtmpbhgofllbejaaRows
set_option linter.unusedVariables false
set_option linter.unusedSimpArgs false
set_option linter.unusedVariables false
namespace Go.Proofs.Ytmpbhgofllbejaa
open Go Go.Ax Go.ChangeShapes Go.WideShapes Go.ChangeAt Go.RowKit
theorem own : ownKnob Try.prog.godebug = none := by kernel_rfl
theorem laidOut : laidOutB Try.prog = true := by kernel_rfl
set_option maxRecDepth 100000 in
theorem needAll_lifted (os : Os) (started : os.Started) (H : Type) (enc : TypeId × Value → H) :
    ReturnsInHanded {} Try.checked os 6 .any (Rows.needAllSpec.pre6 enc Try.prog Try.f6 Rows.needAllRow.domain false) (Rows.needAllSpec.post enc Try.prog Try.f6 false true false false) := by
  refine returnsInHanded_of_change_sized (C := Try.checked) own started (by kernel_rfl) Try.func6
    (ChangeSpec.witness6 (enc := enc) (C := Try.checked) false ⟨#[], #[.agg #[.slice none 0 0, .int .i64 0, .int .i64 0, .int .i64 0, .int .i64 0, .int .i64 0, .int .i64 0], .slice none 0 0, .slice none 0 0, .int .i64 0, .int .i64 0, .agg #[.int .i64 0, .int .u64 0]], []⟩ 8 (by kernel_rfl) (by kernel_rfl) (by kernel_rfl) (by kernel_rfl)) ?_
  intro W base args ds gs before hval hW _ hsz _
  refine law_contract laidOut Try.func6 (by kernel_rfl) (by decide) rfl (tb := 4) rfl und_4 12 (by kernel_rfl) ?_ ?_ hval hW hsz
  · intro H ds hl
    match ds, hl with
    | [d1, d2, d3, d4, d5, d6], _ => rfl
  · rintro dss ⟨⟨i0, a0⟩, _, rfl, e0, h0, ⟨⟨i1, a1⟩, _, rfl, e1, h1, ⟨⟨i2, a2⟩, _, rfl, e2, h2, ⟨⟨i3, a3⟩, _, rfl, e3, h3, ⟨⟨i4, a4⟩, _, rfl, e4, h4, ⟨⟨i5, a5⟩, _, rfl, e5, h5, rfl⟩⟩⟩⟩⟩⟩
    simp only [agg_2, agg_3, agg_52, agg_59, agg_66, agg_67] at e0 e1 e2 e3 e4 e5
    subst e0 e1 e2 e3 e4 e5
    obtain ⟨x0, rfl, p0⟩ := isT_api_Config h0
    obtain ⟨x1, rfl, p1, q1⟩ := isT_l66 h1
    obtain ⟨x2, rfl, p2, q2⟩ := isT_l67 h2
    obtain ⟨x3, rfl, p3⟩ := isT_i64 und_3 h3
    obtain ⟨x4, rfl, p4⟩ := isT_i64 und_2 h4
    obtain ⟨x5, rfl, p5⟩ := isT_wide h5
    exact needAll_spec (by have := p0.1.2; omega) (by omega) (by omega) (legI_of p1) p4
theorem needAll_holds : Rows.NeedAllSaid :=
  OpenClaim.holds_of_wide 6 Try.f6 rfl rfl rfl rfl rfl rfl rfl ⟨rfl, rfl, rfl, rfl, rfl⟩ rfl rfl rfl rfl rfl (by kernel_rfl) Try.func6 (by kernel_rfl)
    (of_decide_eq_true (by kernel_rfl)) (by unfold Func.isWrapper; first | (rw [if_pos (by decide +kernel)]; kernel_rfl) | (rw [if_neg (by decide +kernel)]; exact ⟨rfl, rfl⟩))
    (fun os started H enc _ => needAll_lifted os started H enc)
#print axioms needAll_holds
end Go.Proofs.Ytmpbhgofllbejaa
