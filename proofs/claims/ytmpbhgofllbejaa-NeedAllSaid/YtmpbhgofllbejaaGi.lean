/- Arguments are data of their types. -/
import Derived.Test.YtmpbhgofllbejaaGa
import Derived.Test.YtmpbhgofllbejaaFa
import Derived.Test.YtmpbhgofllbejaaLibF
set_option linter.unusedVariables false
set_option linter.unusedSimpArgs false
set_option linter.unusedVariables false
set_option maxRecDepth 100000
namespace Go.Ax
open Go Go.Proofs
theorem isT_i64 {n : Nat} {t : TypeId} {ds : List D} (hu : Try.prog.underlying t = some (.int .i64)) (h : IsT Try.prog n t ds) : ∃ x, ds = [.v (.int .i64 x)] ∧ I64 x := by
  cases n with
  | zero => exact h.elim
  | succ n =>
    unfold IsT at h
    rw [hu] at h
    obtain ⟨x, e, hx⟩ := h
    refine ⟨x, e, ?_⟩
    simp [Lit.wf, IntKind.min, IntKind.max, IntKind.signed, IntKind.bits] at hx
    simp only [I64]
    omega
theorem isT_u64 {n : Nat} {t : TypeId} {ds : List D} (hu : Try.prog.underlying t = some (.int .u64)) (h : IsT Try.prog n t ds) : ∃ x, ds = [.v (.int .u64 x)] ∧ (0 ≤ x ∧ x < 18446744073709551616) := by
  cases n with
  | zero => exact h.elim
  | succ n =>
    unfold IsT at h
    rw [hu] at h
    obtain ⟨x, e, hx⟩ := h
    refine ⟨x, e, ?_⟩
    simp [Lit.wf, IntKind.min, IntKind.max, IntKind.signed, IntKind.bits] at hx
    omega
theorem isT_bool {n : Nat} {t : TypeId} {ds : List D} (hu : Try.prog.underlying t = some .bool) (h : IsT Try.prog n t ds) : ∃ x, ds = [.v (.bool x)] := by
  cases n with
  | zero => exact h.elim
  | succ n =>
    unfold IsT at h
    rw [hu] at h
    exact h
theorem isT_rows {α : Type} (f : α → List D) (ok : α → Prop) {n : Nat} {t e : TypeId} {ds : List D} (hu : Try.prog.underlying t = some (.slice e)) (hb1 : Nat.ble 1 (Try.prog.bytesOf e) = true) (he : ∀ n ds, IsT Try.prog n e ds → ∃ x, ds = f x ∧ ok x) (h : IsT Try.prog n t ds) : ∃ l : List α, ds = [.l (rowsD f l)] ∧ (∀ y ∈ l, ok y) ∧ l.length < 281474976710656 := by
  cases n with
  | zero => exact h.elim
  | succ n =>
    unfold IsT at h
    rw [hu] at h
    obtain ⟨rows, rfl, hb, hr⟩ := h
    have : ∀ rows : List (List D), (∀ r ∈ rows, IsT Try.prog n e r) → ∃ l : List α, rows = rowsD f l ∧ (∀ y ∈ l, ok y) := by
      intro rows
      induction rows with
      | nil => intro _; exact ⟨[], rfl, by simp⟩
      | cons r rows ih =>
        intro h
        obtain ⟨l, e1, hl⟩ := ih (fun r hr => h r (List.mem_cons_of_mem _ hr))
        obtain ⟨x, e2, hx⟩ := he n r (h r (List.mem_cons_self ..))
        subst e1 e2
        exact ⟨x :: l, rfl, fun y hy => by
          rcases List.mem_cons.1 hy with rfl | hy
          · exact hx
          · exact hl y hy⟩
    obtain ⟨l, rfl, hl⟩ := this rows hr
    refine ⟨l, rfl, hl, ?_⟩
    rw [length_rowsD] at hb
    have h1 := Nat.le_of_ble_eq_true hb1
    have h2 : l.length ≤ l.length * Try.prog.bytesOf e := Nat.le_mul_of_pos_right _ h1
    have h3 : l.length * Try.prog.bytesOf e ≤ reachBytes := by first | exact hb | (rw [Nat.mul_comm]; exact hb)
    have h4 : reachBytes < 281474976710656 := by decide
    omega
theorem isT_api_Inst {n : Nat} {ds : List D} (h : IsT Try.prog n 125 ds) : ∃ x : api_Inst, ds = api_Inst.D x ∧ api_Inst.ok x := by
  cases n with
  | zero => exact h.elim
  | succ n =>
    unfold IsT at h
    rw [und_125] at h
    obtain ⟨d0, r0, rfl, h0, d1, r1, rfl, h1, d2, r2, rfl, h2, d3, r3, rfl, h3, rfl⟩ := h
    obtain ⟨x0, rfl, p0⟩ := isT_i64 und_3 h0
    obtain ⟨x1, rfl, p1⟩ := isT_i64 und_2 h1
    obtain ⟨x2, rfl, p2⟩ := isT_i64 und_2 h2
    obtain ⟨x3, rfl, p3⟩ := isT_i64 und_2 h3
    exact ⟨⟨x0, x1, x2, x3⟩, rfl, ⟨p0, p1, p2, p3⟩⟩
theorem isT_l50 {n : Nat} {ds : List D} (h : IsT Try.prog n 50 ds) : ∃ l : List api_Inst, ds = [.l (rowsD api_Inst.D l)] ∧ (∀ y ∈ l, api_Inst.ok y) ∧ l.length < 281474976710656 := isT_rows api_Inst.D (fun y => api_Inst.ok y) und_50 (by kernel_rfl) (fun n ds h => isT_api_Inst h) h
theorem isT_api_Config {n : Nat} {ds : List D} (h : IsT Try.prog n 52 ds) : ∃ x : api_Config, ds = api_Config.D x ∧ api_Config.ok x := by
  cases n with
  | zero => exact h.elim
  | succ n =>
    unfold IsT at h
    rw [und_52] at h
    obtain ⟨d0, r0, rfl, h0, d1, r1, rfl, h1, d2, r2, rfl, h2, d3, r3, rfl, h3, d4, r4, rfl, h4, d5, r5, rfl, h5, d6, r6, rfl, h6, rfl⟩ := h
    obtain ⟨x0, rfl, p0⟩ := isT_l50 h0
    obtain ⟨x1, rfl, p1⟩ := isT_i64 und_2 h1
    obtain ⟨x2, rfl, p2⟩ := isT_i64 und_3 h2
    obtain ⟨x3, rfl, p3⟩ := isT_i64 und_2 h3
    obtain ⟨x4, rfl, p4⟩ := isT_i64 und_2 h4
    obtain ⟨x5, rfl, p5⟩ := isT_i64 und_2 h5
    obtain ⟨x6, rfl, p6⟩ := isT_i64 und_2 h6
    exact ⟨⟨x0, x1, x2, x3, x4, x5, x6⟩, rfl, ⟨p0, p1, p2, p3, p4, p5, p6⟩⟩
theorem isT_api_Leg {n : Nat} {ds : List D} (h : IsT Try.prog n 133 ds) : ∃ x : api_Leg, ds = api_Leg.D x ∧ api_Leg.ok x := by
  cases n with
  | zero => exact h.elim
  | succ n =>
    unfold IsT at h
    rw [und_133] at h
    obtain ⟨d0, r0, rfl, h0, d1, r1, rfl, h1, rfl⟩ := h
    obtain ⟨x0, rfl, p0⟩ := isT_i64 und_3 h0
    obtain ⟨x1, rfl, p1⟩ := isT_i64 und_2 h1
    exact ⟨⟨x0, x1⟩, rfl, ⟨p0, p1⟩⟩
theorem isT_l66 {n : Nat} {ds : List D} (h : IsT Try.prog n 66 ds) : ∃ l : List api_Leg, ds = [.l (rowsD api_Leg.D l)] ∧ (∀ y ∈ l, api_Leg.ok y) ∧ l.length < 281474976710656 := isT_rows api_Leg.D (fun y => api_Leg.ok y) und_66 (by kernel_rfl) (fun n ds h => isT_api_Leg h) h
theorem isT_api_Open {n : Nat} {ds : List D} (h : IsT Try.prog n 135 ds) : ∃ x : api_Open, ds = api_Open.D x ∧ api_Open.ok x := by
  cases n with
  | zero => exact h.elim
  | succ n =>
    unfold IsT at h
    rw [und_135] at h
    obtain ⟨d0, r0, rfl, h0, d1, r1, rfl, h1, d2, r2, rfl, h2, rfl⟩ := h
    obtain ⟨x0, rfl, p0⟩ := isT_i64 und_3 h0
    obtain ⟨x1, rfl, p1⟩ := isT_i64 und_2 h1
    obtain ⟨x2, rfl, p2⟩ := isT_i64 und_2 h2
    exact ⟨⟨x0, x1, x2⟩, rfl, ⟨p0, p1, p2⟩⟩
theorem isT_l67 {n : Nat} {ds : List D} (h : IsT Try.prog n 67 ds) : ∃ l : List api_Open, ds = [.l (rowsD api_Open.D l)] ∧ (∀ y ∈ l, api_Open.ok y) ∧ l.length < 281474976710656 := isT_rows api_Open.D (fun y => api_Open.ok y) und_67 (by kernel_rfl) (fun n ds h => isT_api_Open h) h
theorem isT_wide {n : Nat} {ds : List D} (h : IsT Try.prog n 59 ds) : ∃ w : Int, ds = wD w ∧ Wid w := by
  cases n with
  | zero => exact h.elim
  | succ n =>
    unfold IsT at h
    rw [und_59] at h
    obtain ⟨d1, r1, rfl, h1, d2, r2, rfl, h2, rfl⟩ := h
    obtain ⟨x, rfl, hx⟩ := isT_i64 und_2 h1
    obtain ⟨y, rfl, hy⟩ := isT_u64 und_57 h2
    obtain ⟨w, hw, e1, e2⟩ := wid_of x y hx hy.1 hy.2
    exact ⟨w, by rw [wD, e1, e2]; rfl, hw⟩
end Go.Ax
