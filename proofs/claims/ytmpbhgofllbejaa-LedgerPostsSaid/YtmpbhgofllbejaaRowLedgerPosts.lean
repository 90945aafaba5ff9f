/- The row of LedgerPosts. -/
import Derived.Test.YtmpbhgofllbejaaRlposts
import Derived.Test.YtmpbhgofllbejaaGi
import Derived.Test.YtmpbhgofllbejaaLibF
import Derived.Test.YtmpbhgofllbejaaRows
set_option linter.unusedVariables false
set_option linter.unusedSimpArgs false
set_option linter.unusedVariables false
namespace Go.Proofs.Ytmpbhgofllbejaa
open Go Go.Ax Go.ChangeShapes Go.WideShapes Go.ChangeAt Go.RowKit
theorem own : ownKnob Try.prog.godebug = none := by kernel_rfl
theorem laidOut : laidOutB Try.prog = true := by kernel_rfl
set_option maxRecDepth 100000 in
theorem ledgerPosts_lifted (os : Os) (started : os.Started) (H : Type) (enc : TypeId × Value → H) :
    ReturnsInHanded {} Try.checked os 8 .any (Rows.ledgerPostsSpec.pre6 enc Try.prog Try.f8 Rows.ledgerPostsRow.domain false) (Rows.ledgerPostsSpec.post enc Try.prog Try.f8 false true false false) := by
  refine returnsInHanded_of_change_sized (C := Try.checked) own started (by kernel_rfl) Try.func8
    (ChangeSpec.witness6 (enc := enc) (C := Try.checked) false ⟨#[], #[.slice none 0 0, .slice none 0 0, .agg #[.int .i64 0, .int .i64 0, .int .i64 0], .agg #[.int .i64 0, .int .i64 0, .int .i64 0], .int .i64 0], []⟩ 8 (by kernel_rfl) (by kernel_rfl) (by kernel_rfl) (by kernel_rfl)) ?_
  intro W base args ds gs before hval hW _ hsz _
  refine law_contract laidOut Try.func8 (by kernel_rfl) (by decide) rfl (tb := 4) rfl und_4 12 (by kernel_rfl) ?_ ?_ hval hW hsz
  · intro H ds hl
    match ds, hl with
    | [d1, d2, d3, d4, d5], _ => rfl
  · rintro dss ⟨⟨i0, a0⟩, _, rfl, e0, h0, ⟨⟨i1, a1⟩, _, rfl, e1, h1, ⟨⟨i2, a2⟩, _, rfl, e2, h2, ⟨⟨i3, a3⟩, _, rfl, e3, h3, ⟨⟨i4, a4⟩, _, rfl, e4, h4, rfl⟩⟩⟩⟩⟩
    simp only [agg_2, agg_24, agg_69, agg_80] at e0 e1 e2 e3 e4
    subst e0 e1 e2 e3 e4
    obtain ⟨x0, rfl, p0, q0⟩ := isT_l69 h0
    obtain ⟨x1, rfl, p1, q1⟩ := isT_l24 h1
    obtain ⟨x2, rfl, p2⟩ := isT_api_Row h2
    obtain ⟨x3, rfl, p3⟩ := isT_api_Row h3
    obtain ⟨x4, rfl, p4⟩ := isT_i64 und_2 h4
    exact ledgerPosts_spec p0 p1 x2 x3 p4
theorem ledgerPosts_holds : Rows.LedgerPostsSaid :=
  OpenClaim.holds_of_wide 8 Try.f8 rfl rfl rfl rfl rfl rfl rfl ⟨rfl, rfl, rfl, rfl, rfl⟩ rfl rfl rfl rfl rfl (by kernel_rfl) Try.func8 (by kernel_rfl)
    (of_decide_eq_true (by kernel_rfl)) (by unfold Func.isWrapper; first | (rw [if_pos (by decide +kernel)]; kernel_rfl) | (rw [if_neg (by decide +kernel)]; exact ⟨rfl, rfl⟩))
    (fun os started H enc _ => ledgerPosts_lifted os started H enc)
#print axioms ledgerPosts_holds
end Go.Proofs.Ytmpbhgofllbejaa
