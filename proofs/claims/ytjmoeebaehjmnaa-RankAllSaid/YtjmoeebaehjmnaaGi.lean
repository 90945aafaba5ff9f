/- Arguments are data of their types. -/
import Derived.Test.YtjmoeebaehjmnaaGa
import Derived.Test.YtjmoeebaehjmnaaFa
import Derived.Test.YtjmoeebaehjmnaaLibF
set_option linter.unusedVariables false
set_option linter.unusedSimpArgs false
set_option linter.unusedVariables false
set_option maxRecDepth 100000
namespace Go.Ax
open Go Go.Proofs
theorem isT_i64 {n : Nat} {t : TypeId} {ds : List D} (hu : Try.prog.underlying t = some (.int .i64)) (h : IsT Try.prog n t ds) : ∃ x, ds = [.v (.int .i64 x)] ∧ I64 x := by
  cases n with
  | zero => exact h.elim
  | succ n =>
    unfold IsT at h
    rw [hu] at h
    obtain ⟨x, e, hx⟩ := h
    refine ⟨x, e, ?_⟩
    simp [Lit.wf, IntKind.min, IntKind.max, IntKind.signed, IntKind.bits] at hx
    simp only [I64]
    omega
theorem isT_u64 {n : Nat} {t : TypeId} {ds : List D} (hu : Try.prog.underlying t = some (.int .u64)) (h : IsT Try.prog n t ds) : ∃ x, ds = [.v (.int .u64 x)] ∧ (0 ≤ x ∧ x < 18446744073709551616) := by
  cases n with
  | zero => exact h.elim
  | succ n =>
    unfold IsT at h
    rw [hu] at h
    obtain ⟨x, e, hx⟩ := h
    refine ⟨x, e, ?_⟩
    simp [Lit.wf, IntKind.min, IntKind.max, IntKind.signed, IntKind.bits] at hx
    omega
theorem isT_bool {n : Nat} {t : TypeId} {ds : List D} (hu : Try.prog.underlying t = some .bool) (h : IsT Try.prog n t ds) : ∃ x, ds = [.v (.bool x)] := by
  cases n with
  | zero => exact h.elim
  | succ n =>
    unfold IsT at h
    rw [hu] at h
    exact h
theorem isT_rows {α : Type} (f : α → List D) (ok : α → Prop) {n : Nat} {t e : TypeId} {ds : List D} (hu : Try.prog.underlying t = some (.slice e)) (hb1 : Nat.ble 1 (Try.prog.bytesOf e) = true) (he : ∀ n ds, IsT Try.prog n e ds → ∃ x, ds = f x ∧ ok x) (h : IsT Try.prog n t ds) : ∃ l : List α, ds = [.l (rowsD f l)] ∧ (∀ y ∈ l, ok y) ∧ l.length < 281474976710656 := by
  cases n with
  | zero => exact h.elim
  | succ n =>
    unfold IsT at h
    rw [hu] at h
    obtain ⟨rows, rfl, hb, hr⟩ := h
    have : ∀ rows : List (List D), (∀ r ∈ rows, IsT Try.prog n e r) → ∃ l : List α, rows = rowsD f l ∧ (∀ y ∈ l, ok y) := by
      intro rows
      induction rows with
      | nil => intro _; exact ⟨[], rfl, by simp⟩
      | cons r rows ih =>
        intro h
        obtain ⟨l, e1, hl⟩ := ih (fun r hr => h r (List.mem_cons_of_mem _ hr))
        obtain ⟨x, e2, hx⟩ := he n r (h r (List.mem_cons_self ..))
        subst e1 e2
        exact ⟨x :: l, rfl, fun y hy => by
          rcases List.mem_cons.1 hy with rfl | hy
          · exact hx
          · exact hl y hy⟩
    obtain ⟨l, rfl, hl⟩ := this rows hr
    refine ⟨l, rfl, hl, ?_⟩
    rw [length_rowsD] at hb
    have h1 := Nat.le_of_ble_eq_true hb1
    have h2 : l.length ≤ l.length * Try.prog.bytesOf e := Nat.le_mul_of_pos_right _ h1
    have h3 : l.length * Try.prog.bytesOf e ≤ reachBytes := by first | exact hb | (rw [Nat.mul_comm]; exact hb)
    have h4 : reachBytes < 281474976710656 := by decide
    omega
theorem isT_api_Inst {n : Nat} {ds : List D} (h : IsT Try.prog n 70 ds) : ∃ x : api_Inst, ds = api_Inst.D x ∧ api_Inst.ok x := by
  cases n with
  | zero => exact h.elim
  | succ n =>
    unfold IsT at h
    rw [und_70] at h
    obtain ⟨d0, r0, rfl, h0, d1, r1, rfl, h1, d2, r2, rfl, h2, d3, r3, rfl, h3, rfl⟩ := h
    obtain ⟨x0, rfl, p0⟩ := isT_i64 und_3 h0
    obtain ⟨x1, rfl, p1⟩ := isT_i64 und_2 h1
    obtain ⟨x2, rfl, p2⟩ := isT_i64 und_2 h2
    obtain ⟨x3, rfl, p3⟩ := isT_i64 und_2 h3
    exact ⟨⟨x0, x1, x2, x3⟩, rfl, ⟨p0, p1, p2, p3⟩⟩
theorem isT_l22 {n : Nat} {ds : List D} (h : IsT Try.prog n 22 ds) : ∃ l : List api_Inst, ds = [.l (rowsD api_Inst.D l)] ∧ (∀ y ∈ l, api_Inst.ok y) ∧ l.length < 281474976710656 := isT_rows api_Inst.D (fun y => api_Inst.ok y) und_22 (by kernel_rfl) (fun n ds h => isT_api_Inst h) h
theorem isT_api_Config {n : Nat} {ds : List D} (h : IsT Try.prog n 24 ds) : ∃ x : api_Config, ds = api_Config.D x ∧ api_Config.ok x := by
  cases n with
  | zero => exact h.elim
  | succ n =>
    unfold IsT at h
    rw [und_24] at h
    obtain ⟨d0, r0, rfl, h0, d1, r1, rfl, h1, d2, r2, rfl, h2, d3, r3, rfl, h3, d4, r4, rfl, h4, d5, r5, rfl, h5, d6, r6, rfl, h6, rfl⟩ := h
    obtain ⟨x0, rfl, p0⟩ := isT_l22 h0
    obtain ⟨x1, rfl, p1⟩ := isT_i64 und_2 h1
    obtain ⟨x2, rfl, p2⟩ := isT_i64 und_3 h2
    obtain ⟨x3, rfl, p3⟩ := isT_i64 und_2 h3
    obtain ⟨x4, rfl, p4⟩ := isT_i64 und_2 h4
    obtain ⟨x5, rfl, p5⟩ := isT_i64 und_2 h5
    obtain ⟨x6, rfl, p6⟩ := isT_i64 und_2 h6
    exact ⟨⟨x0, x1, x2, x3, x4, x5, x6⟩, rfl, ⟨p0, p1, p2, p3, p4, p5, p6⟩⟩
theorem isT_api_Member {n : Nat} {ds : List D} (h : IsT Try.prog n 72 ds) : ∃ x : api_Member, ds = api_Member.D x ∧ api_Member.ok x := by
  cases n with
  | zero => exact h.elim
  | succ n =>
    unfold IsT at h
    rw [und_72] at h
    obtain ⟨d0, r0, rfl, h0, d1, r1, rfl, h1, rfl⟩ := h
    obtain ⟨x0, rfl, p0⟩ := isT_i64 und_3 h0
    obtain ⟨x1, rfl, p1⟩ := isT_i64 und_3 h1
    exact ⟨⟨x0, x1⟩, rfl, ⟨p0, p1⟩⟩
theorem isT_l25 {n : Nat} {ds : List D} (h : IsT Try.prog n 25 ds) : ∃ l : List api_Member, ds = [.l (rowsD api_Member.D l)] ∧ (∀ y ∈ l, api_Member.ok y) ∧ l.length < 281474976710656 := isT_rows api_Member.D (fun y => api_Member.ok y) und_25 (by kernel_rfl) (fun n ds h => isT_api_Member h) h
theorem isT_api_Acc {n : Nat} {ds : List D} (h : IsT Try.prog n 92 ds) : ∃ x : api_Acc, ds = api_Acc.D x ∧ api_Acc.ok x := by
  cases n with
  | zero => exact h.elim
  | succ n =>
    unfold IsT at h
    rw [und_92] at h
    obtain ⟨d0, r0, rfl, h0, d1, r1, rfl, h1, d2, r2, rfl, h2, d3, r3, rfl, h3, rfl⟩ := h
    obtain ⟨x0, rfl, p0⟩ := isT_i64 und_3 h0
    obtain ⟨x1, rfl, p1⟩ := isT_i64 und_3 h1
    obtain ⟨x2, rfl, p2⟩ := isT_i64 und_3 h2
    obtain ⟨x3, rfl, p3⟩ := isT_i64 und_2 h3
    exact ⟨⟨x0, x1, x2, x3⟩, rfl, ⟨p0, p1, p2, p3⟩⟩
theorem isT_l26 {n : Nat} {ds : List D} (h : IsT Try.prog n 26 ds) : ∃ l : List api_Acc, ds = [.l (rowsD api_Acc.D l)] ∧ (∀ y ∈ l, api_Acc.ok y) ∧ l.length < 281474976710656 := isT_rows api_Acc.D (fun y => api_Acc.ok y) und_26 (by kernel_rfl) (fun n ds h => isT_api_Acc h) h
theorem isT_api_Row {n : Nat} {ds : List D} (h : IsT Try.prog n 74 ds) : ∃ x : api_Row, ds = api_Row.D x ∧ api_Row.ok x := by
  cases n with
  | zero => exact h.elim
  | succ n =>
    unfold IsT at h
    rw [und_74] at h
    obtain ⟨d0, r0, rfl, h0, d1, r1, rfl, h1, d2, r2, rfl, h2, rfl⟩ := h
    obtain ⟨x0, rfl, p0⟩ := isT_i64 und_3 h0
    obtain ⟨x1, rfl, p1⟩ := isT_i64 und_3 h1
    obtain ⟨x2, rfl, p2⟩ := isT_i64 und_2 h2
    exact ⟨⟨x0, x1, x2⟩, rfl, ⟨p0, p1, p2⟩⟩
theorem isT_l27 {n : Nat} {ds : List D} (h : IsT Try.prog n 27 ds) : ∃ l : List api_Row, ds = [.l (rowsD api_Row.D l)] ∧ (∀ y ∈ l, api_Row.ok y) ∧ l.length < 281474976710656 := isT_rows api_Row.D (fun y => api_Row.ok y) und_27 (by kernel_rfl) (fun n ds h => isT_api_Row h) h
theorem isT_api_Pos {n : Nat} {ds : List D} (h : IsT Try.prog n 128 ds) : ∃ x : api_Pos, ds = api_Pos.D x ∧ api_Pos.ok x := by
  cases n with
  | zero => exact h.elim
  | succ n =>
    unfold IsT at h
    rw [und_128] at h
    obtain ⟨d0, r0, rfl, h0, d1, r1, rfl, h1, d2, r2, rfl, h2, rfl⟩ := h
    obtain ⟨x0, rfl, p0⟩ := isT_i64 und_3 h0
    obtain ⟨x1, rfl, p1⟩ := isT_i64 und_3 h1
    obtain ⟨x2, rfl, p2⟩ := isT_i64 und_2 h2
    exact ⟨⟨x0, x1, x2⟩, rfl, ⟨p0, p1, p2⟩⟩
theorem isT_l28 {n : Nat} {ds : List D} (h : IsT Try.prog n 28 ds) : ∃ l : List api_Pos, ds = [.l (rowsD api_Pos.D l)] ∧ (∀ y ∈ l, api_Pos.ok y) ∧ l.length < 281474976710656 := isT_rows api_Pos.D (fun y => api_Pos.ok y) und_28 (by kernel_rfl) (fun n ds h => isT_api_Pos h) h
theorem isT_l29 {n : Nat} {ds : List D} (h : IsT Try.prog n 29 ds) : ∃ l : List Int, ds = [.l (rowsD i64D l)] ∧ (∀ y ∈ l, I64 y) ∧ l.length < 281474976710656 := isT_rows i64D (fun y => I64 y) und_29 (by kernel_rfl) (fun n ds h => isT_i64 und_2 h) h
theorem isT_api_Order {n : Nat} {ds : List D} (h : IsT Try.prog n 130 ds) : ∃ x : api_Order, ds = api_Order.D x ∧ api_Order.ok x := by
  cases n with
  | zero => exact h.elim
  | succ n =>
    unfold IsT at h
    rw [und_130] at h
    obtain ⟨d0, r0, rfl, h0, d1, r1, rfl, h1, d2, r2, rfl, h2, d3, r3, rfl, h3, d4, r4, rfl, h4, d5, r5, rfl, h5, rfl⟩ := h
    obtain ⟨x0, rfl, p0⟩ := isT_i64 und_2 h0
    obtain ⟨x1, rfl, p1⟩ := isT_i64 und_3 h1
    obtain ⟨x2, rfl, p2⟩ := isT_i64 und_3 h2
    obtain ⟨x3, rfl, p3⟩ := isT_i64 und_3 h3
    obtain ⟨x4, rfl, p4⟩ := isT_i64 und_2 h4
    obtain ⟨x5, rfl, p5⟩ := isT_i64 und_2 h5
    exact ⟨⟨x0, x1, x2, x3, x4, x5⟩, rfl, ⟨p0, p1, p2, p3, p4, p5⟩⟩
theorem isT_l30 {n : Nat} {ds : List D} (h : IsT Try.prog n 30 ds) : ∃ l : List api_Order, ds = [.l (rowsD api_Order.D l)] ∧ (∀ y ∈ l, api_Order.ok y) ∧ l.length < 281474976710656 := isT_rows api_Order.D (fun y => api_Order.ok y) und_30 (by kernel_rfl) (fun n ds h => isT_api_Order h) h
theorem isT_api_Book {n : Nat} {ds : List D} (h : IsT Try.prog n 32 ds) : ∃ x : api_Book, ds = api_Book.D x ∧ api_Book.ok x := by
  cases n with
  | zero => exact h.elim
  | succ n =>
    unfold IsT at h
    rw [und_32] at h
    obtain ⟨d0, r0, rfl, h0, d1, r1, rfl, h1, d2, r2, rfl, h2, d3, r3, rfl, h3, d4, r4, rfl, h4, d5, r5, rfl, h5, rfl⟩ := h
    obtain ⟨x0, rfl, p0⟩ := isT_l25 h0
    obtain ⟨x1, rfl, p1⟩ := isT_l26 h1
    obtain ⟨x2, rfl, p2⟩ := isT_l27 h2
    obtain ⟨x3, rfl, p3⟩ := isT_l28 h3
    obtain ⟨x4, rfl, p4⟩ := isT_l29 h4
    obtain ⟨x5, rfl, p5⟩ := isT_l30 h5
    exact ⟨⟨x0, x1, x2, x3, x4, x5⟩, rfl, ⟨p0, p1, p2, p3, p4, p5⟩⟩
theorem isT_api_Deed {n : Nat} {ds : List D} (h : IsT Try.prog n 53 ds) : ∃ x : api_Deed, ds = api_Deed.D x ∧ api_Deed.ok x := by
  cases n with
  | zero => exact h.elim
  | succ n =>
    unfold IsT at h
    rw [und_53] at h
    obtain ⟨d0, r0, rfl, h0, d1, r1, rfl, h1, rfl⟩ := h
    obtain ⟨x0, rfl, p0⟩ := isT_i64 und_3 h0
    obtain ⟨x1, rfl, p1⟩ := isT_i64 und_3 h1
    exact ⟨⟨x0, x1⟩, rfl, ⟨p0, p1⟩⟩
theorem isT_l33 {n : Nat} {ds : List D} (h : IsT Try.prog n 33 ds) : ∃ l : List api_Deed, ds = [.l (rowsD api_Deed.D l)] ∧ (∀ y ∈ l, api_Deed.ok y) ∧ l.length < 281474976710656 := isT_rows api_Deed.D (fun y => api_Deed.ok y) und_33 (by kernel_rfl) (fun n ds h => isT_api_Deed h) h
theorem isT_l34 {n : Nat} {ds : List D} (h : IsT Try.prog n 34 ds) : ∃ l : List Int, ds = [.l (rowsD i64D l)] ∧ (∀ y ∈ l, I64 y) ∧ l.length < 281474976710656 := isT_rows i64D (fun y => I64 y) und_34 (by kernel_rfl) (fun n ds h => isT_i64 und_3 h) h
theorem isT_api_Leg {n : Nat} {ds : List D} (h : IsT Try.prog n 76 ds) : ∃ x : api_Leg, ds = api_Leg.D x ∧ api_Leg.ok x := by
  cases n with
  | zero => exact h.elim
  | succ n =>
    unfold IsT at h
    rw [und_76] at h
    obtain ⟨d0, r0, rfl, h0, d1, r1, rfl, h1, rfl⟩ := h
    obtain ⟨x0, rfl, p0⟩ := isT_i64 und_3 h0
    obtain ⟨x1, rfl, p1⟩ := isT_i64 und_2 h1
    exact ⟨⟨x0, x1⟩, rfl, ⟨p0, p1⟩⟩
theorem isT_l38 {n : Nat} {ds : List D} (h : IsT Try.prog n 38 ds) : ∃ l : List api_Leg, ds = [.l (rowsD api_Leg.D l)] ∧ (∀ y ∈ l, api_Leg.ok y) ∧ l.length < 281474976710656 := isT_rows api_Leg.D (fun y => api_Leg.ok y) und_38 (by kernel_rfl) (fun n ds h => isT_api_Leg h) h
theorem isT_api_Lot {n : Nat} {ds : List D} (h : IsT Try.prog n 40 ds) : ∃ x : api_Lot, ds = api_Lot.D x ∧ api_Lot.ok x := by
  cases n with
  | zero => exact h.elim
  | succ n =>
    unfold IsT at h
    rw [und_40] at h
    obtain ⟨d0, r0, rfl, h0, d1, r1, rfl, h1, d2, r2, rfl, h2, d3, r3, rfl, h3, d4, r4, rfl, h4, d5, r5, rfl, h5, rfl⟩ := h
    obtain ⟨x0, rfl, p0⟩ := isT_i64 und_2 h0
    obtain ⟨x1, rfl, p1⟩ := isT_l38 h1
    obtain ⟨x2, rfl, p2⟩ := isT_i64 und_2 h2
    obtain ⟨x3, rfl, p3⟩ := isT_i64 und_3 h3
    obtain ⟨x4, rfl, p4⟩ := isT_i64 und_3 h4
    obtain ⟨x5, rfl, p5⟩ := isT_i64 und_2 h5
    exact ⟨⟨x0, x1, x2, x3, x4, x5⟩, rfl, ⟨p0, p1, p2, p3, p4, p5⟩⟩
theorem isT_l35 {n : Nat} {ds : List D} (h : IsT Try.prog n 35 ds) : ∃ l : List api_Lot, ds = [.l (rowsD api_Lot.D l)] ∧ (∀ y ∈ l, api_Lot.ok y) ∧ l.length < 281474976710656 := isT_rows api_Lot.D (fun y => api_Lot.ok y) und_35 (by kernel_rfl) (fun n ds h => isT_api_Lot h) h
theorem isT_api_Bid {n : Nat} {ds : List D} (h : IsT Try.prog n 78 ds) : ∃ x : api_Bid, ds = api_Bid.D x ∧ api_Bid.ok x := by
  cases n with
  | zero => exact h.elim
  | succ n =>
    unfold IsT at h
    rw [und_78] at h
    obtain ⟨d0, r0, rfl, h0, d1, r1, rfl, h1, d2, r2, rfl, h2, d3, r3, rfl, h3, rfl⟩ := h
    obtain ⟨x0, rfl, p0⟩ := isT_i64 und_2 h0
    obtain ⟨x1, rfl, p1⟩ := isT_i64 und_2 h1
    obtain ⟨x2, rfl, p2⟩ := isT_i64 und_3 h2
    obtain ⟨x3, rfl, p3⟩ := isT_i64 und_2 h3
    exact ⟨⟨x0, x1, x2, x3⟩, rfl, ⟨p0, p1, p2, p3⟩⟩
theorem isT_l36 {n : Nat} {ds : List D} (h : IsT Try.prog n 36 ds) : ∃ l : List api_Bid, ds = [.l (rowsD api_Bid.D l)] ∧ (∀ y ∈ l, api_Bid.ok y) ∧ l.length < 281474976710656 := isT_rows api_Bid.D (fun y => api_Bid.ok y) und_36 (by kernel_rfl) (fun n ds h => isT_api_Bid h) h
end Go.Ax
