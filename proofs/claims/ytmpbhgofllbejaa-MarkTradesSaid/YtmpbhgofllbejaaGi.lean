/- Arguments are data of their types. -/
import Derived.Test.YtmpbhgofllbejaaGa
import Derived.Test.YtmpbhgofllbejaaFa
import Derived.Test.YtmpbhgofllbejaaLibF
set_option linter.unusedVariables false
set_option linter.unusedSimpArgs false
set_option linter.unusedVariables false
set_option maxRecDepth 100000
namespace Go.Ax
open Go Go.Proofs
theorem isT_i64 {n : Nat} {t : TypeId} {ds : List D} (hu : Try.prog.underlying t = some (.int .i64)) (h : IsT Try.prog n t ds) : ∃ x, ds = [.v (.int .i64 x)] ∧ I64 x := by
  cases n with
  | zero => exact h.elim
  | succ n =>
    unfold IsT at h
    rw [hu] at h
    obtain ⟨x, e, hx⟩ := h
    refine ⟨x, e, ?_⟩
    simp [Lit.wf, IntKind.min, IntKind.max, IntKind.signed, IntKind.bits] at hx
    simp only [I64]
    omega
theorem isT_u64 {n : Nat} {t : TypeId} {ds : List D} (hu : Try.prog.underlying t = some (.int .u64)) (h : IsT Try.prog n t ds) : ∃ x, ds = [.v (.int .u64 x)] ∧ (0 ≤ x ∧ x < 18446744073709551616) := by
  cases n with
  | zero => exact h.elim
  | succ n =>
    unfold IsT at h
    rw [hu] at h
    obtain ⟨x, e, hx⟩ := h
    refine ⟨x, e, ?_⟩
    simp [Lit.wf, IntKind.min, IntKind.max, IntKind.signed, IntKind.bits] at hx
    omega
theorem isT_bool {n : Nat} {t : TypeId} {ds : List D} (hu : Try.prog.underlying t = some .bool) (h : IsT Try.prog n t ds) : ∃ x, ds = [.v (.bool x)] := by
  cases n with
  | zero => exact h.elim
  | succ n =>
    unfold IsT at h
    rw [hu] at h
    exact h
theorem isT_rows {α : Type} (f : α → List D) (ok : α → Prop) {n : Nat} {t e : TypeId} {ds : List D} (hu : Try.prog.underlying t = some (.slice e)) (hb1 : Nat.ble 1 (Try.prog.bytesOf e) = true) (he : ∀ n ds, IsT Try.prog n e ds → ∃ x, ds = f x ∧ ok x) (h : IsT Try.prog n t ds) : ∃ l : List α, ds = [.l (rowsD f l)] ∧ (∀ y ∈ l, ok y) ∧ l.length < 281474976710656 := by
  cases n with
  | zero => exact h.elim
  | succ n =>
    unfold IsT at h
    rw [hu] at h
    obtain ⟨rows, rfl, hb, hr⟩ := h
    have : ∀ rows : List (List D), (∀ r ∈ rows, IsT Try.prog n e r) → ∃ l : List α, rows = rowsD f l ∧ (∀ y ∈ l, ok y) := by
      intro rows
      induction rows with
      | nil => intro _; exact ⟨[], rfl, by simp⟩
      | cons r rows ih =>
        intro h
        obtain ⟨l, e1, hl⟩ := ih (fun r hr => h r (List.mem_cons_of_mem _ hr))
        obtain ⟨x, e2, hx⟩ := he n r (h r (List.mem_cons_self ..))
        subst e1 e2
        exact ⟨x :: l, rfl, fun y hy => by
          rcases List.mem_cons.1 hy with rfl | hy
          · exact hx
          · exact hl y hy⟩
    obtain ⟨l, rfl, hl⟩ := this rows hr
    refine ⟨l, rfl, hl, ?_⟩
    rw [length_rowsD] at hb
    have h1 := Nat.le_of_ble_eq_true hb1
    have h2 : l.length ≤ l.length * Try.prog.bytesOf e := Nat.le_mul_of_pos_right _ h1
    have h3 : l.length * Try.prog.bytesOf e ≤ reachBytes := by first | exact hb | (rw [Nat.mul_comm]; exact hb)
    have h4 : reachBytes < 281474976710656 := by decide
    omega
theorem isT_api_Trade {n : Nat} {ds : List D} (h : IsT Try.prog n 43 ds) : ∃ x : api_Trade, ds = api_Trade.D x ∧ api_Trade.ok x := by
  cases n with
  | zero => exact h.elim
  | succ n =>
    unfold IsT at h
    rw [und_43] at h
    obtain ⟨d0, r0, rfl, h0, d1, r1, rfl, h1, d2, r2, rfl, h2, d3, r3, rfl, h3, d4, r4, rfl, h4, rfl⟩ := h
    obtain ⟨x0, rfl, p0⟩ := isT_i64 und_3 h0
    obtain ⟨x1, rfl, p1⟩ := isT_i64 und_3 h1
    obtain ⟨x2, rfl, p2⟩ := isT_i64 und_3 h2
    obtain ⟨x3, rfl, p3⟩ := isT_i64 und_2 h3
    obtain ⟨x4, rfl, p4⟩ := isT_i64 und_2 h4
    exact ⟨⟨x0, x1, x2, x3, x4⟩, rfl, ⟨p0, p1, p2, p3, p4⟩⟩
theorem isT_l44 {n : Nat} {ds : List D} (h : IsT Try.prog n 44 ds) : ∃ l : List Int, ds = [.l (rowsD u64D l)] ∧ (∀ y ∈ l, (0 ≤ y ∧ y < 18446744073709551616)) ∧ l.length < 281474976710656 := isT_rows u64D (fun y => (0 ≤ y ∧ y < 18446744073709551616)) und_44 (by kernel_rfl) (fun n ds h => isT_u64 und_57 h) h
theorem isT_api_Row {n : Nat} {ds : List D} (h : IsT Try.prog n 80 ds) : ∃ x : api_Row, ds = api_Row.D x ∧ api_Row.ok x := by
  cases n with
  | zero => exact h.elim
  | succ n =>
    unfold IsT at h
    rw [und_80] at h
    obtain ⟨d0, r0, rfl, h0, d1, r1, rfl, h1, d2, r2, rfl, h2, rfl⟩ := h
    obtain ⟨x0, rfl, p0⟩ := isT_i64 und_3 h0
    obtain ⟨x1, rfl, p1⟩ := isT_i64 und_3 h1
    obtain ⟨x2, rfl, p2⟩ := isT_i64 und_2 h2
    exact ⟨⟨x0, x1, x2⟩, rfl, ⟨p0, p1, p2⟩⟩
theorem isT_l69 {n : Nat} {ds : List D} (h : IsT Try.prog n 69 ds) : ∃ l : List api_Row, ds = [.l (rowsD api_Row.D l)] ∧ (∀ y ∈ l, api_Row.ok y) ∧ l.length < 281474976710656 := isT_rows api_Row.D (fun y => api_Row.ok y) und_69 (by kernel_rfl) (fun n ds h => isT_api_Row h) h
theorem isT_wide {n : Nat} {ds : List D} (h : IsT Try.prog n 59 ds) : ∃ w : Int, ds = wD w ∧ Wid w := by
  cases n with
  | zero => exact h.elim
  | succ n =>
    unfold IsT at h
    rw [und_59] at h
    obtain ⟨d1, r1, rfl, h1, d2, r2, rfl, h2, rfl⟩ := h
    obtain ⟨x, rfl, hx⟩ := isT_i64 und_2 h1
    obtain ⟨y, rfl, hy⟩ := isT_u64 und_57 h2
    obtain ⟨w, hw, e1, e2⟩ := wid_of x y hx hy.1 hy.2
    exact ⟨w, by rw [wD, e1, e2]; rfl, hw⟩
theorem isT_api_Entry {n : Nat} {ds : List D} (h : IsT Try.prog n 63 ds) : ∃ x : api_Entry, ds = api_Entry.D x ∧ api_Entry.ok x := by
  cases n with
  | zero => exact h.elim
  | succ n =>
    unfold IsT at h
    rw [und_63] at h
    obtain ⟨d0, r0, rfl, h0, d1, r1, rfl, h1, d2, r2, rfl, h2, rfl⟩ := h
    obtain ⟨x0, rfl, p0⟩ := isT_i64 und_3 h0
    obtain ⟨x1, rfl, p1⟩ := isT_i64 und_3 h1
    obtain ⟨x2, rfl, p2⟩ := isT_wide h2
    exact ⟨⟨x0, x1, x2⟩, rfl, ⟨p0, p1, p2⟩⟩
theorem isT_l24 {n : Nat} {ds : List D} (h : IsT Try.prog n 24 ds) : ∃ l : List api_Entry, ds = [.l (rowsD api_Entry.D l)] ∧ (∀ y ∈ l, api_Entry.ok y) ∧ l.length < 281474976710656 := isT_rows api_Entry.D (fun y => api_Entry.ok y) und_24 (by kernel_rfl) (fun n ds h => isT_api_Entry h) h
theorem isT_api_Pos {n : Nat} {ds : List D} (h : IsT Try.prog n 99 ds) : ∃ x : api_Pos, ds = api_Pos.D x ∧ api_Pos.ok x := by
  cases n with
  | zero => exact h.elim
  | succ n =>
    unfold IsT at h
    rw [und_99] at h
    obtain ⟨d0, r0, rfl, h0, d1, r1, rfl, h1, d2, r2, rfl, h2, rfl⟩ := h
    obtain ⟨x0, rfl, p0⟩ := isT_i64 und_3 h0
    obtain ⟨x1, rfl, p1⟩ := isT_i64 und_3 h1
    obtain ⟨x2, rfl, p2⟩ := isT_i64 und_2 h2
    exact ⟨⟨x0, x1, x2⟩, rfl, ⟨p0, p1, p2⟩⟩
theorem isT_l22 {n : Nat} {ds : List D} (h : IsT Try.prog n 22 ds) : ∃ l : List api_Pos, ds = [.l (rowsD api_Pos.D l)] ∧ (∀ y ∈ l, api_Pos.ok y) ∧ l.length < 281474976710656 := isT_rows api_Pos.D (fun y => api_Pos.ok y) und_22 (by kernel_rfl) (fun n ds h => isT_api_Pos h) h
theorem isT_api_Shift {n : Nat} {ds : List D} (h : IsT Try.prog n 158 ds) : ∃ x : api_Shift, ds = api_Shift.D x ∧ api_Shift.ok x := by
  cases n with
  | zero => exact h.elim
  | succ n =>
    unfold IsT at h
    rw [und_158] at h
    obtain ⟨d0, r0, rfl, h0, d1, r1, rfl, h1, d2, r2, rfl, h2, rfl⟩ := h
    obtain ⟨x0, rfl, p0⟩ := isT_i64 und_3 h0
    obtain ⟨x1, rfl, p1⟩ := isT_i64 und_3 h1
    obtain ⟨x2, rfl, p2⟩ := isT_i64 und_2 h2
    exact ⟨⟨x0, x1, x2⟩, rfl, ⟨p0, p1, p2⟩⟩
theorem isT_l94 {n : Nat} {ds : List D} (h : IsT Try.prog n 94 ds) : ∃ l : List api_Shift, ds = [.l (rowsD api_Shift.D l)] ∧ (∀ y ∈ l, api_Shift.ok y) ∧ l.length < 281474976710656 := isT_rows api_Shift.D (fun y => api_Shift.ok y) und_94 (by kernel_rfl) (fun n ds h => isT_api_Shift h) h
end Go.Ax
