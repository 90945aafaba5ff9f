/- The opening of the arguments of the wide laws. -/
import Derived.Test.YtoojnlkkmppjiaaSd4
import Derived.Test.YtoojnlkkmppjiaaLibF
import Derived.Test.YtoojnlkkmppjiaaRows
set_option linter.unusedVariables false
set_option linter.unusedSimpArgs false
set_option linter.unusedVariables false
namespace Go.Proofs.Ytoojnlkkmppjiaa
open Go Go.Ax Go.ChangeShapes Go.WideShapes Go.ChangeAt Go.RowKit
theorem own : ownKnob Try.prog.godebug = none := by kernel_rfl
theorem laidOut : laidOutB Try.prog = true := by kernel_rfl
theorem isT_int {n : Nat} {t : TypeId} {k : IntKind} {ds : List D} (hu : Try.prog.underlying t = some (.int k)) (h : IsT Try.prog n t ds) : ∃ x, ds = [.v (.int k x)] ∧ (Lit.int k x).wf = true := by
  cases n with
  | zero => exact h.elim
  | succ n => unfold IsT at h; rw [hu] at h; exact h
theorem i64_wf {x : Int} (h : (Lit.int .i64 x).wf = true) : I64 x := by
  simp [Lit.wf, IntKind.min, IntKind.max, IntKind.signed, IntKind.bits] at h
  simp only [I64]
  omega
theorem isT_i64 {n : Nat} {ds : List D} (h : IsT Try.prog n 2 ds) : ∃ x, ds = [.v (.int .i64 x)] ∧ I64 x := by
  obtain ⟨x, e, hx⟩ := isT_int Try.underlying2 h
  exact ⟨x, e, i64_wf hx⟩
theorem isT_ints {n : Nat} {ds : List D} (h : IsT Try.prog n 36 ds) : ∃ l, ds = [.l (rowsI l)] ∧ (∀ x ∈ l, I64 x) ∧ l.length < 2 ^ 44 := by
  cases n with
  | zero => exact h.elim
  | succ n =>
    unfold IsT at h
    rw [Try.underlying36] at h
    obtain ⟨rows, rfl, hb, hr⟩ := h
    have hby : Try.prog.bytesOf 2 = 8 := by kernel_rfl
    rw [hby] at hb
    have : ∀ rows : List (List D), (∀ r ∈ rows, IsT Try.prog n 2 r) → ∃ l, rows = rowsI l ∧ (∀ x ∈ l, I64 x) := by
      intro rows
      induction rows with
      | nil => intro _; exact ⟨[], rfl, by simp⟩
      | cons r rows ih =>
        intro h
        obtain ⟨l, e, hl⟩ := ih (fun r hr => h r (List.mem_cons_of_mem _ hr))
        obtain ⟨x, e2, hx⟩ := isT_i64 (h r (List.mem_cons_self ..))
        subst e e2
        exact ⟨x :: l, rfl, fun y hy => by
          rcases List.mem_cons.1 hy with rfl | hy
          · exact hx
          · exact hl y hy⟩
    obtain ⟨l, rfl, hl⟩ := this rows hr
    refine ⟨l, rfl, hl, ?_⟩
    rw [length_rowsI] at hb
    unfold reachBytes at hb
    omega
theorem isT_wide {n : Nat} {ds : List D} (h : IsT Try.prog n 44 ds) : ∃ w, ds = wD w ∧ Wid w := by
  cases n with
  | zero => exact h.elim
  | succ n =>
    unfold IsT at h
    rw [und_44] at h
    obtain ⟨d1, r1, rfl, h1, d2, r2, rfl, h2, rfl⟩ := h
    obtain ⟨x, rfl, hx⟩ := isT_int und_2 h1
    obtain ⟨y, rfl, hy⟩ := isT_int und_30 h2
    have hy' : 0 ≤ y ∧ y < 18446744073709551616 := by
      simp [Lit.wf, IntKind.min, IntKind.max, IntKind.signed, IntKind.bits] at hy
      omega
    obtain ⟨w, hw, e1, e2⟩ := wid_of x y (i64_wf hx) hy'.1 hy'.2
    exact ⟨w, by rw [wD, e1, e2]; rfl, hw⟩
theorem isT_wides {n : Nat} {ds : List D} (h : IsT Try.prog n 60 ds) : ∃ l, ds = [.l (rowsW l)] ∧ (∀ x ∈ l, Wid x) ∧ l.length < 2 ^ 44 := by
  cases n with
  | zero => exact h.elim
  | succ n =>
    unfold IsT at h
    rw [und_60] at h
    obtain ⟨rows, rfl, hb, hr⟩ := h
    have hby : Try.prog.bytesOf 44 = 16 := by kernel_rfl
    rw [hby] at hb
    have : ∀ rows : List (List D), (∀ r ∈ rows, IsT Try.prog n 44 r) → ∃ l, rows = rowsW l ∧ (∀ x ∈ l, Wid x) := by
      intro rows
      induction rows with
      | nil => intro _; exact ⟨[], rfl, by simp⟩
      | cons r rows ih =>
        intro h
        obtain ⟨l, e, hl⟩ := ih (fun r hr => h r (List.mem_cons_of_mem _ hr))
        obtain ⟨x, e2, hx⟩ := isT_wide (h r (List.mem_cons_self ..))
        subst e e2
        exact ⟨x :: l, rfl, fun y hy => by
          rcases List.mem_cons.1 hy with rfl | hy
          · exact hx
          · exact hl y hy⟩
    obtain ⟨l, rfl, hl⟩ := this rows hr
    refine ⟨l, rfl, hl, ?_⟩
    rw [length_rowsW] at hb
    unfold reachBytes at hb
    omega
end Go.Proofs.Ytoojnlkkmppjiaa
