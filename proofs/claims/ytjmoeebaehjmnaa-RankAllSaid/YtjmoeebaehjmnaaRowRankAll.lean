/- The row of RankAll. -/
import Derived.Test.YtjmoeebaehjmnaaRrank
import Derived.Test.YtjmoeebaehjmnaaGi
import Derived.Test.YtjmoeebaehjmnaaLibF
import Derived.Test.YtjmoeebaehjmnaaRows
set_option linter.unusedVariables false
set_option linter.unusedSimpArgs false
set_option linter.unusedVariables false
namespace Go.Proofs.Ytjmoeebaehjmnaa
open Go Go.Ax Go.ChangeShapes Go.WideShapes Go.ChangeAt Go.RowKit
theorem own : ownKnob Try.prog.godebug = none := by kernel_rfl
theorem laidOut : laidOutB Try.prog = true := by kernel_rfl
set_option maxRecDepth 100000 in
theorem rankAll_lifted (os : Os) (started : os.Started) (H : Type) (enc : TypeId × Value → H) :
    ReturnsInHanded {} Try.checked os 3 .any (Rows.rankAllSpec.pre6 enc Try.prog Try.f3 Rows.rankAllRow.domain false) (Rows.rankAllSpec.post enc Try.prog Try.f3 false true false false) := by
  refine returnsInHanded_of_change_sized (C := Try.checked) own started (by kernel_rfl) Try.func3
    (ChangeSpec.witness6 (enc := enc) (C := Try.checked) false ⟨#[], #[.agg #[.slice none 0 0, .int .i64 0, .int .i64 0, .int .i64 0, .int .i64 0, .int .i64 0, .int .i64 0], .agg #[.slice none 0 0, .slice none 0 0, .slice none 0 0, .slice none 0 0, .slice none 0 0, .slice none 0 0], .slice none 0 0, .slice none 0 0, .slice none 0 0, .slice none 0 0, .int .i64 0, .int .i64 0], []⟩ 8 (by kernel_rfl) (by kernel_rfl) (by kernel_rfl) (by kernel_rfl)) ?_
  intro W base args ds gs before hval hW _ hsz _
  refine law_contract laidOut Try.func3 (by kernel_rfl) (by decide) rfl (tb := 4) rfl und_4 12 (by kernel_rfl) ?_ ?_ hval hW hsz
  · intro H ds hl
    match ds, hl with
    | [d1, d2, d3, d4, d5, d6, d7, d8], _ => rfl
  · rintro dss ⟨⟨i0, a0⟩, _, rfl, e0, h0, ⟨⟨i1, a1⟩, _, rfl, e1, h1, ⟨⟨i2, a2⟩, _, rfl, e2, h2, ⟨⟨i3, a3⟩, _, rfl, e3, h3, ⟨⟨i4, a4⟩, _, rfl, e4, h4, ⟨⟨i5, a5⟩, _, rfl, e5, h5, ⟨⟨i6, a6⟩, _, rfl, e6, h6, ⟨⟨i7, a7⟩, _, rfl, e7, h7, rfl⟩⟩⟩⟩⟩⟩⟩⟩
    simp only [agg_24, agg_3, agg_32, agg_33, agg_34, agg_35, agg_36] at e0 e1 e2 e3 e4 e5 e6 e7
    subst e0 e1 e2 e3 e4 e5 e6 e7
    obtain ⟨x0, rfl, p0⟩ := isT_api_Config h0
    obtain ⟨x1, rfl, p1⟩ := isT_api_Book h1
    obtain ⟨x2, rfl, p2, q2⟩ := isT_l33 h2
    obtain ⟨x3, rfl, p3, q3⟩ := isT_l34 h3
    obtain ⟨x4, rfl, p4, q4⟩ := isT_l35 h4
    obtain ⟨x5, rfl, p5, q5⟩ := isT_l36 h5
    obtain ⟨x6, rfl, p6⟩ := isT_i64 und_3 h6
    obtain ⟨x7, rfl, p7⟩ := isT_i64 und_3 h7
    exact rankAll_spec p1 x2 x3 x4 x5 x6 x7
theorem rankAll_holds : Rows.RankAllSaid :=
  OpenClaim.holds_of_wide 3 Try.f3 rfl rfl rfl rfl rfl rfl rfl ⟨rfl, rfl, rfl, rfl, rfl⟩ rfl rfl rfl rfl rfl (by kernel_rfl) Try.func3 (by kernel_rfl)
    (of_decide_eq_true (by kernel_rfl)) (by unfold Func.isWrapper; first | (rw [if_pos (by decide +kernel)]; kernel_rfl) | (rw [if_neg (by decide +kernel)]; exact ⟨rfl, rfl⟩))
    (fun os started H enc _ => rankAll_lifted os started H enc)
#print axioms rankAll_holds
end Go.Proofs.Ytjmoeebaehjmnaa
