/- A region that draws its order: its written order stands for all. -/
import Derived.Test.YtmpbhgofllbejaaLibC
set_option linter.unusedVariables false
set_option linter.unusedSimpArgs false
set_option linter.unusedVariables false
set_option linter.unusedSimpArgs false
namespace Go.Ax
open Go

def wr (P : Program) (o : Oper) (s : S) : List Nat :=
  match o.dst with
  | some d => d :: (s.n + 1 + d) :: (if loud P o.type o.op s d = true then wop s.n o.op s else [])
  | none => wop s.n o.op s

/-- Operations that don't look into a box of which they handle an address. -/
def lop (op : Op) : Bool :=
  match op with
  | .move _ => true
  | .nilCheck _ => true
  | .fieldAddr _ _ _ => true
  | .indexAddr _ _ _ => true
  | _ => false
/-- What such an operation reads of an operand: of a box only that it is one. -/
def lrd (n : Nat) (s : S) (x : Operand) : List Nat :=
  match x with
  | .tmp t => match s.get t with
    | .box _ => if s.isVar t = true then [n + 1 + t] else [t]
    | .bref y _ => [t, n + 1 + y]
    | u => t :: tfp n u
  | _ => []
def rdo (n : Nat) (op : Op) (s : S) : List Nat := if lop op = true then (reads op).flatMap (lrd n s) else rdq n op s
/-- An operand lies in X, as far as such an operation looks. -/
def ClL (X : List Nat) (s : S) (x : Operand) : Prop := ∀ t, x = .tmp t → (∃ c, s.get t = .box c ∧ s.isVar t = true ∧ s.n + 1 + t ∈ X) ∨ (t ∈ X ∧ ∃ y off, s.get t = .bref y off) ∨ (t ∈ X ∧ ∀ y, (s.get t).target = some y → y ∈ X)
def ClO (op : Op) (X : List Nat) (s : S) (x : Operand) : Prop := if lop op = true then ClL X s x else Cl X s x
theorem lrd_cl {X : List Nat} {s : S} {x : Operand} (h : ∀ z ∈ lrd s.n s x, z ∈ X) : ClL X s x := by
  intro t e
  subst e
  simp only [lrd] at h
  split at h
  · rename_i c e
    split at h
    · rename_i hv
      exact .inl ⟨c, e, hv, h _ (by simp)⟩
    · exact .inr (.inr ⟨h _ (by simp), fun y hy => by rw [e] at hy; cases hy⟩)
  · rename_i y off e
    exact .inr (.inl ⟨h _ (by simp), y, off, e⟩)
  · exact .inr (.inr ⟨h _ (by simp), fun y hy => h _ (List.mem_cons_of_mem _ (tfp_target hy))⟩)
theorem rdo_cl {X : List Nat} {s : S} {op : Op} (h : ∀ z ∈ rdo s.n op s, z ∈ X) : ∀ x ∈ reads op, ClO op X s x := by
  intro x hx
  unfold ClO
  unfold rdo at h
  split
  · rename_i hl
    rw [if_pos hl] at h
    exact lrd_cl fun z hz => h z (List.mem_flatMap.2 ⟨x, hx, hz⟩)
  · rename_i hl
    rw [if_neg hl] at h
    refine rdx_cl (n := s.n) fun z hz => h z ?_
    unfold rdq
    exact List.mem_append_left _ (List.mem_flatMap.2 ⟨x, hx, hz⟩)
theorem isBox_iff {t : T} : t.isBox = true ↔ ∃ c, t = .box c := by
  cases t <;> simp [T.isBox]
theorem ev_light {X : List Nat} {s s' : S} (h : Agr X s s') {x : Operand} (hx : ClL X s x) : (ev s' x).t = (ev s x).t ∧ ((ev s' x).c = (ev s x).c ∨ ∃ y off, (ev s x).t = .bref y off) := by
  cases x with
  | tmp t =>
    rcases hx t rfl with ⟨c, e, hv, hb⟩ | ⟨ht, y, off, e⟩ | ⟨h1, h2⟩
    · have h1 := h.bx t hb hv
      rw [e] at h1
      obtain ⟨c', e'⟩ := isBox_iff.1 (h1.trans (show T.isBox (.box c) = true from rfl))
      have g1 : (ev s (.tmp t)).t = .bref t 0 := by simp only [ev, opd, e, hv]; rfl
      have g2 : (ev s' (.tmp t)).t = .bref t 0 := by simp only [ev, opd, e', h.var, hv]; rfl
      exact ⟨g2.trans g1.symm, .inr ⟨t, 0, g1⟩⟩
    · have g1 : (ev s (.tmp t)).t = .bref y off := by simp only [ev, opd, e]
      have g2 : (ev s' (.tmp t)).t = .bref y off := by simp only [ev, opd, h.get t ht, e]
      exact ⟨g2.trans g1.symm, .inr ⟨y, off, g1⟩⟩
    · have := ev_agr h (x := .tmp t) (fun t' e => by cases e; exact ⟨h1, h2⟩)
      rw [this]
      exact ⟨rfl, .inl rfl⟩
  | const v => rw [ev_agr h (x := .const v) (fun t e => by cases e)]; exact ⟨rfl, .inl rfl⟩
  | func f => exact ⟨rfl, .inl rfl⟩
  | global g => exact ⟨rfl, .inl rfl⟩
theorem ev_t {op : Op} {X : List Nat} {s s' : S} (h : Agr X s s') {x : Operand} (hx : ClO op X s x) : (ev s' x).t = (ev s x).t := by
  unfold ClO at hx
  split at hx
  · exact (ev_light h hx).1
  · rw [ev_agr h hx]
theorem qOp_light {P : Program} {op : Op} (hl : lop op = true) {e1 e2 : Operand → R} {K : T → Prop} (h : ∀ x ∈ reads op, (e1 x).t = (e2 x).t ∧ ((e1 x).c = (e2 x).c ∨ ∃ y off, (e2 x).t = .bref y off)) : qOp P op e1 K = qOp P op e2 K := by
  cases op <;> simp only [lop, Bool.false_eq_true] at hl <;> simp only [reads, Op.operands] at h <;> simp only [qOp]
  case move x => simp only [qMove, (h x (by simp)).1]
  case nilCheck x => simp only [(h x (by simp)).1]
  case fieldAddr st x f => simp only [(h x (by simp)).1]
  case indexAddr t x i =>
    simp only [(h i (by simp)).1]
    obtain ⟨h1, h2⟩ := h x (by simp)
    rcases h2 with h2 | ⟨y, off, h2⟩
    · simp only [h1, h2]
    · simp only [h1, h2]
/-- Of one kind, and of one box. -/
def LikeT (t u : T) : Prop := t = u ∨ (∃ y off off', u = .bref y off ∧ t = .bref y off') ∨ (∃ y sz i off off', u = .oref y sz i off ∧ t = .oref y sz i off') ∨ (∃ y sz i off, u = .ref y ∧ t = .oref y sz i off)
theorem LikeT.target {t u : T} (h : LikeT t u) : t.target = u.target := by
  rcases h with rfl | ⟨y, off, off', rfl, rfl⟩ | ⟨y, sz, i, off, off', rfl, rfl⟩ | ⟨y, sz, i, off, rfl, rfl⟩ <;> rfl
theorem LikeT.tfp {t u : T} (h : LikeT t u) (n : Nat) : tfp n t = Ax.tfp n u := by
  rcases h with rfl | ⟨y, off, off', rfl, rfl⟩ | ⟨y, sz, i, off, off', rfl, rfl⟩ | ⟨y, sz, i, off, rfl, rfl⟩ <;> rfl
theorem LikeT.bref {t u : T} (h : LikeT t u) {y off : Nat} (e : u = .bref y off) : ∃ off', t = .bref y off' := by
  rcases h with rfl | ⟨y', o, off', rfl, rfl⟩ | ⟨y, sz, i, off, off', rfl, rfl⟩ | ⟨y, sz, i, off, rfl, rfl⟩
  · exact ⟨_, e⟩
  · cases e; exact ⟨_, rfl⟩
  · cases e
  · cases e
theorem qOp_lsrc {P : Program} {op : Op} {s : S} {K : T → Prop} (hl : lop op = true) (h : qOp P op (ev s) K) : ∃ t, K t ∧ One (qOp P op (ev s)) t ∧ (t.target = none ∨ ∃ x ∈ reads op, LikeT t (ev s x).t) := by
  unfold One
  cases op <;> simp only [lop, Bool.false_eq_true] at hl <;> simp only [qOp] at h ⊢
  case move x =>
    have mem : x ∈ reads (.move x) := by simp [reads, Op.operands]
    unfold qMove at *
    cases e : (ev s x).t <;> simp only [e] at h ⊢ <;> first
      | exact h.elim
      | exact ⟨_, h.2, fun K' hk => ⟨h.1, hk⟩, .inl rfl⟩
      | exact ⟨_, h, fun K' hk => hk, .inr ⟨x, mem, .inl e.symm⟩⟩
  case nilCheck x =>
    have mem : x ∈ reads (.nilCheck x) := by simp [reads, Op.operands]
    split at h
    · rename_i y off e
      exact ⟨_, h, fun _ hk => hk, .inr ⟨x, mem, .inl e.symm⟩⟩
    · exact ⟨_, h, fun _ hk => hk, .inl rfl⟩
    · exact h.elim
  case fieldAddr st x f =>
    have mem : x ∈ reads (.fieldAddr st x f) := by simp [reads, Op.operands]
    split at h <;> try exact h.elim
    split at h <;> try exact h.elim
    obtain ⟨h0, h1, h⟩ := h
    split at h
    · rename_i y off e
      exact ⟨_, h, fun _ hk => ⟨h0, h1, hk⟩, .inr ⟨x, mem, .inr (.inl ⟨_, _, _, e, rfl⟩)⟩⟩
    · exact ⟨_, h, fun _ hk => ⟨h0, h1, hk⟩, .inl rfl⟩
    · rename_i y sz i off e
      exact ⟨_, h, fun _ hk => ⟨h0, h1, hk⟩, .inr ⟨x, mem, .inr (.inr (.inl ⟨_, _, _, _, _, e, rfl⟩))⟩⟩
    · exact h.elim
  case indexAddr t x i =>
    have mem : x ∈ reads (.indexAddr t x i) := by simp [reads, Op.operands]
    split at h <;> try exact h.elim
    split at h <;> try exact h.elim
    · obtain ⟨h0, h⟩ := h
      split at h
      · rename_i y sz rows e _
        exact ⟨_, h.2.2.2, fun _ hk => ⟨h0, h.1, h.2.1, h.2.2.1, hk⟩, .inr ⟨x, mem, .inr (.inr (.inr ⟨_, _, _, _, e, rfl⟩))⟩⟩
      · exact ⟨_, h.2.2.2, fun _ hk => ⟨h0, h.1, h.2.1, h.2.2.1, hk⟩, .inl rfl⟩
      · exact ⟨_, h.2.2.2, fun _ hk => ⟨h0, h.1, h.2.1, h.2.2.1, hk⟩, .inl rfl⟩
      · exact h.elim
    · obtain ⟨h0, h1, h2, h⟩ := h
      split at h
      · rename_i y off e
        exact ⟨_, h, fun _ hk => ⟨h0, h1, h2, hk⟩, .inr ⟨x, mem, .inr (.inl ⟨_, _, _, e, rfl⟩)⟩⟩
      · exact ⟨_, h, fun _ hk => ⟨h0, h1, h2, hk⟩, .inl rfl⟩
      · exact h.elim
theorem tgIn_light {n : Nat} {s : S} {x : Operand} {t : T} (h : LikeT t (ev s x).t) : TgIn n (lrd n s x) t := by
  by_cases hb : ∃ y off, (ev s x).t = .bref y off
  · obtain ⟨y, off, e⟩ := hb
    obtain ⟨off', rfl⟩ := h.bref e
    refine .inr ⟨y, off', rfl, ?_⟩
    cases x with
    | tmp u =>
      simp only [ev, opd] at e
      simp only [lrd]
      split at e
      · split at e <;> cases e
      · rename_i c ec
        split at e
        · rename_i hv; cases e; simp [hv, ec]
        · cases e
      · rw [e]; simp
    | const v => have := cT_target v; simp only [ev, opd] at e; rw [e] at this; cases this
    | func f => cases e
    | global g => cases e
  · refine .inl fun z hz => ?_
    rw [h.tfp] at hz
    have hz' := ev_tfp hz
    cases x with
    | tmp u =>
      simp only [rdx] at hz'
      simp only [lrd]
      split
      · rename_i c ec
        by_cases hv : s.isVar u = true
        · exact absurd ⟨u, 0, by simp only [ev, opd, ec, hv]; rfl⟩ hb
        · rw [if_neg hv]
          rw [ec] at hz'
          simpa [tfp] using hz'
      · rename_i y off ec
        exact absurd ⟨y, off, by simp only [ev, opd, ec]⟩ hb
      · exact hz'
    | const v => simp [rdx] at hz'
    | func f => simp [rdx] at hz'
    | global g => simp [rdx] at hz'

theorem loud_agr {P : Program} {ty : TypeId} {op : Op} {X : List Nat} {s s' : S} {d : Nat} (h : Agr X s s') (hc : ∀ x ∈ reads op, ClO op X s x) : loud P ty op s' d = loud P ty op s d := by
  have ev1 : ∀ x, x ∈ reads op → (ev s' x).t = (ev s x).t := fun x hx => ev_t h (hc x hx)
  cases op <;> simp only [loud]
  case move x => rw [ev1 x (by simp [reads, Op.operands]), h.var]
  case extract x j => rw [ev1 x (by simp [reads, Op.operands])]
  case call c =>
    have ha : ∀ x ∈ c.args.toList, ev s' x = ev s x := fun x hx => ev_agr h (hc x (by
      simp only [reads, Op.operands, Call.operands]
      cases hc : c.callee <;> simp_all))
    have this : (c.args.toList.all fun x => (ev s' x).plain) = c.args.toList.all fun x => (ev s x).plain := by
      rw [Bool.eq_iff_iff, List.all_eq_true, List.all_eq_true]
      exact ⟨fun g x hx => by rw [← ha x hx]; exact g x hx, fun g x hx => by rw [ha x hx]; exact g x hx⟩
    have that : (c.args.toList.any fun x => (ev s' x).t.isBref) = c.args.toList.any fun x => (ev s x).t.isBref := by
      rw [Bool.eq_iff_iff, List.any_eq_true, List.any_eq_true]
      exact ⟨fun ⟨x, hx, g⟩ => ⟨x, hx, by rw [← ha x hx]; exact g⟩, fun ⟨x, hx, g⟩ => ⟨x, hx, by rw [ha x hx]; exact g⟩⟩
    rw [this, that]

/-- As edits, for all states that look the same. -/
def DetO (s : S) (rd wr : List Nat) (op : Op) (p : S → (S → Prop) → Prop) (K : S → Prop) : Prop :=
  ∃ es, K (aps es s) ∧ Eds s rd wr es ∧ ∀ X s', Agr X s s' → Wf s' → (∀ x ∈ reads op, ClO op X s x) → ∀ K', K' (aps es s') → p s' K'
/-- An operation that is no quiet one looks at all. -/
theorem eOp_cl {P : Program} {ty : TypeId} {op : Op} {d : Nat} {s : S} {K : S → Prop} (h : eOp P ty op d s K) {X : List Nat} (hc : ∀ x ∈ reads op, ClO op X s x) : ∀ x ∈ reads op, Cl X s x := by
  intro x hx
  have h1 := hc x hx
  unfold ClO at h1
  split at h1
  · rename_i hl
    cases op <;> simp only [lop, Bool.false_eq_true] at hl <;> simp only [eOp] at h
    rename_i x'
    simp only [reads, Op.operands, List.mem_singleton] at hx
    subst hx
    intro t e
    subst e
    have nb : ∀ y off, (ev s (.tmp t)).t ≠ .bref y off := fun y off e => by
      rw [eMove_R] at h
      unfold eMoveR frzR at h
      simp only [e] at h
    rcases h1 t rfl with ⟨c, e, hv, hb⟩ | ⟨ht, y, off, e⟩ | h1
    · exact absurd (by simp only [ev, opd, e, hv]; rfl) (nb t 0)
    · exact absurd (by simp only [ev, opd, e]) (nb y off)
    · exact h1
  · exact h1
theorem aOp_det {P : Program} {o : Oper} {s : S} {K : S → Prop} (tg : Tg s) (wf : Wf s) (h : aOp P o s K) : DetO s (rdo s.n o.op s) (wr P o s) o.op (aOp P o) K := by
  unfold aOp at h
  unfold wr
  split at h
  · rename_i d hd
    obtain ⟨hlt, h⟩ := h
    simp only [hd]
    split at h
    · rename_i hl
      obtain ⟨es, k1, k2, k3⟩ := eOp_det tg wf h
      refine ⟨es, k1, k2.mono (by simp) (by rw [if_pos hl]; exact fun _ hz => hz), fun X s' ha wf' hc K' hk' => ?_⟩
      unfold aOp
      simp only [hd]
      refine ⟨by rw [ha.n]; exact hlt, ?_⟩
      rw [loud_agr ha hc, if_pos hl]
      exact k3 X s' ha wf' (eOp_cl h hc) K' hk'
    · rename_i hl
      by_cases hlo : lop o.op = true
      · obtain ⟨t, ⟨k1, k2⟩, k3, k4⟩ := qOp_lsrc hlo h
        have k5 : TgIn s.n (rdo s.n o.op s) t ∧ ∀ y, t.target = some y → s.isVar y = true := by
          rcases k4 with k4 | ⟨x, hx, k4⟩
          · exact ⟨TgIn.plain k4, fun y hy => by rw [k4] at hy; cases hy⟩
          · refine ⟨(tgIn_light k4).mono fun z hz => ?_, fun y hy => (ev_var tg (k4.target ▸ hy)).1⟩
            unfold rdo
            rw [if_pos hlo]
            exact List.mem_flatMap.2 ⟨x, hx, hz⟩
        refine ⟨[.put d t], k2, Eds.cons ⟨k1, k5.1, k5.2, fun e => absurd hlt (Nat.not_lt.2 e)⟩ (by simp [Ed.slot]) (Eds.nil _ _ _) (by intro x t' hh; cases hh; simp), fun X s' ha wf' hc K' hk' => ?_⟩
        unfold aOp
        simp only [hd]
        refine ⟨by rw [ha.n]; exact hlt, ?_⟩
        rw [loud_agr ha hc, if_neg hl]
        rw [qOp_light hlo (e2 := ev s) fun x hx => ev_light ha (by have := hc x hx; unfold ClO at this; rwa [if_pos hlo] at this)]
        exact k3 _ ⟨fun e => k1 (by rw [← ha.var]; exact e), hk'⟩
      · obtain ⟨t, ⟨k1, k2⟩, k3, k4, k5⟩ := qOp_det s.n h
        have er : rdo s.n o.op s = rdq s.n o.op s := if_neg hlo
        rw [er]
        refine ⟨[.put d t], k2, Eds.cons ⟨k1, .inl k4, fun y hy => ?_, fun e => absurd hlt (Nat.not_lt.2 e)⟩ (by simp [Ed.slot]) (Eds.nil _ _ _) (by intro x t' hh; cases hh; simp), fun X s' ha wf' hc K' hk' => ?_⟩
        · obtain ⟨x, hx, hxy⟩ := k5 y hy
          exact (ev_var tg hxy).1
        · unfold aOp
          simp only [hd]
          refine ⟨by rw [ha.n]; exact hlt, ?_⟩
          rw [loud_agr ha hc, if_neg hl]
          rw [qOp_congr (e2 := ev s) fun x hx => ev_agr ha (by have := hc x hx; unfold ClO at this; rwa [if_neg hlo] at this)]
          exact k3 _ ⟨fun e => k1 (by rw [← ha.var]; exact e), hk'⟩
  · rename_i hd
    simp only [hd]
    obtain ⟨dst, op, type, pos, after, guard⟩ := o
    cases op <;> simp only at h <;> try exact h.elim
    rename_i t a x
    simp only at hd
    obtain ⟨es, k1, k2, k3⟩ := eStore_det (op := .store t a x) tg wf (by simp [reads, Op.operands]) (by simp [reads, Op.operands]) h
    refine ⟨es, k1, k2.mono (by simp) (fun z hz => ?_), fun X s' ha wf' hc K' hk' => ?_⟩
    · simpa [wop, reads, Op.operands] using hz
    · unfold aOp
      simp only [hd]
      exact k3 X s' ha wf' hc K' hk'

/-! ### A step with its footprint -/
def gslot (ops : Array Oper) (o : Oper) : List Nat :=
  match o.guard with
  | none => []
  | some (j, _) => match (ops[j]?).bind (·.dst) with
    | some g => [g]
    | none => []
def liveX (s : S) (x : Operand) : Bool :=
  match x with
  | .tmp t => match s.get t with
    | .none => false
    | _ => true
  | _ => true
def live (o : Oper) (s : S) : Bool := (reads o.op).all (liveX s)
def dstL (n : Nat) (o : Oper) : List Nat :=
  match o.dst with
  | some d => [d, n + 1 + d]
  | none => []
abbrev Fp := List Nat × List Nat
def fpOf (P : Program) (ops : Array Oper) (o : Oper) (s : S) : Fp := (gslot ops o ++ rdo s.n o.op s, wr P o s)
def fpSkip (ops : Array Oper) (n : Nat) (o : Oper) : Fp := (gslot ops o, dstL n o)
def aStep (P : Program) (ops : Array Oper) (fp : Fp) (o : Oper) (s : S) (K : S → Prop) : Prop :=
  match o.guard with
  | none => (fp = fpOf P ops o s ∧ live o s = true) ∧ aOp P o s K
  | some (j, b) => match guardOf ops s j b with
    | some β => (β = b → (fp = fpOf P ops o s ∧ live o s = true) ∧ aOp P o s K) ∧ (β = !b → (fp = fpSkip ops s.n o ∧ ∀ d, o.dst = some d → d < s.n) ∧ K (skipS o s))
    | none => False

theorem rdo_agr {n : Nat} {op : Op} {X : List Nat} {s s' : S} (h : Agr X s s') (hc : ∀ x ∈ reads op, ClO op X s x) : rdo n op s' = rdo n op s := by
  unfold rdo
  by_cases hl : lop op = true
  · rw [if_pos hl, if_pos hl, List.flatMap_def, List.flatMap_def]
    congr 1
    refine List.map_congr_left fun x hx => ?_
    have hx := hc x hx
    unfold ClO at hx
    rw [if_pos hl] at hx
    cases x with
    | tmp t =>
      rcases hx t rfl with ⟨c, e, hv, hb⟩ | ⟨ht, _⟩ | ⟨ht, _⟩
      · have h1 := h.bx t hb hv
        rw [e] at h1
        obtain ⟨c', e'⟩ := isBox_iff.1 (h1.trans (show T.isBox (.box c) = true from rfl))
        simp only [lrd, e, e', h.var]
      · simp only [lrd, h.get t ht, h.var]
      · simp only [lrd, h.get t ht, h.var]
    | _ => rfl
  · rw [if_neg hl, if_neg hl]
    have hc : ∀ x ∈ reads op, Cl X s x := fun x hx => by have := hc x hx; unfold ClO at this; rwa [if_neg hl] at this
    unfold rdq
    have h1 : (reads op).flatMap (rdx n s') = (reads op).flatMap (rdx n s) := by
      rw [List.flatMap_def, List.flatMap_def]
      congr 1
      refine List.map_congr_left fun x hx => ?_
      cases x with
      | tmp t => simp only [rdx, h.get t (hc _ hx t rfl).1]
      | _ => rfl
    rw [h1]
    congr 1
    cases op with
    | load t a =>
      simp only
      rw [ev_agr h (hc a (by simp [reads, Op.operands]))]
    | _ => rfl
theorem wop_agr {n : Nat} {op : Op} {X : List Nat} {s s' : S} (h : Agr X s s') (hc : ∀ x ∈ reads op, ClO op X s x) : wop n op s' = wop n op s := by
  have hA : (reads op).flatMap (wx n s') = (reads op).flatMap (wx n s) := by
    rw [List.flatMap_def, List.flatMap_def]
    congr 1
    refine List.map_congr_left fun x hx => ?_
    cases x with
    | tmp t =>
      have : opd s' (.tmp t) = opd s (.tmp t) := ev_t h (hc _ hx)
      simp only [wx, this]
    | _ => rfl
  unfold wop
  rw [hA]
  congr 1
  cases op <;> try rfl
  rename_i c
  simp only []
  cases hcal : c.callee with
  | builtin b => cases b <;> rfl
  | value f =>
    have ha : ∀ x ∈ c.args.toList, ev s' x = ev s x := fun x hx => ev_agr h (by
      have := hc x (by simp only [reads, Op.operands, Call.operands, hcal]; simp_all)
      exact this)
    have that : (c.args.toList.any fun x => handed (ev s' x)) = c.args.toList.any fun x => handed (ev s x) := by
      rw [Bool.eq_iff_iff, List.any_eq_true, List.any_eq_true]
      exact ⟨fun ⟨x, hx, g⟩ => ⟨x, hx, by rw [← ha x hx]; exact g⟩, fun ⟨x, hx, g⟩ => ⟨x, hx, by rw [ha x hx]; exact g⟩⟩
    simp only [that]
  | _ => rfl
theorem fpOf_agr {P : Program} {ops : Array Oper} {o : Oper} {X : List Nat} {s s' : S} (h : Agr X s s') (hc : ∀ x ∈ reads o.op, ClO o.op X s x) : fpOf P ops o s' = fpOf P ops o s := by
  unfold fpOf wr
  rw [h.n, rdo_agr h hc, wop_agr h hc]
  congr 1
  cases o.dst with
  | none => rfl
  | some d => simp only [loud_agr h hc]
theorem live_agr {o : Oper} {X : List Nat} {s s' : S} (h : Agr X s s') (hc : ∀ x ∈ reads o.op, ClO o.op X s x) : live o s' = live o s := by
  unfold live
  have : ∀ x ∈ reads o.op, liveX s' x = liveX s x := fun x hx => by
    have hx := hc x hx
    cases x with
    | tmp t =>
      unfold ClO at hx
      split at hx
      · rcases hx t rfl with ⟨c, e, hv, hb⟩ | ⟨ht, _⟩ | ⟨ht, _⟩
        · have h1 := h.bx t hb hv
          rw [e] at h1
          obtain ⟨c', e'⟩ := isBox_iff.1 (h1.trans (show T.isBox (.box c) = true from rfl))
          simp only [liveX, e, e']
        · simp only [liveX, h.get t ht]
        · simp only [liveX, h.get t ht]
      · simp only [liveX, h.get t (hx t rfl).1]
    | _ => rfl
  rw [Bool.eq_iff_iff, List.all_eq_true, List.all_eq_true]
  exact ⟨fun g x hx => by rw [← this x hx]; exact g x hx, fun g x hx => by rw [this x hx]; exact g x hx⟩

/-- What a footprint's reads are. -/
structure Seen (s : S) (rd : List Nat) : Prop where
  live : ∀ x ∈ rd, x < s.n → s.get x ≠ .none ∨ s.isVar x = true
  tgt : ∀ x ∈ rd, x < s.n → TgIn s.n rd (s.get x)

theorem seen_of {P : Program} {ops : Array Oper} {o : Oper} {s : S} (tg : Tg s) (wf : Wf s) (hl : live o s = true) (hg : ∀ g ∈ gslot ops o, (s.get g) ≠ .none ∧ (s.get g).target = none) : Seen s (fpOf P ops o s).1 := by
  have hvar : ∀ y, s.isVar y = true → TgIn s.n (fpOf P ops o s).1 (s.get y) := fun y hy => TgIn.plain (wf y hy).2
  have hlx : ∀ t, .tmp t ∈ reads o.op → s.get t ≠ .none := fun t ht e => by
    have := List.all_eq_true.1 hl _ ht
    simp [liveX, e] at this
  -- an operand that is read whole
  have full : ∀ t, .tmp t ∈ reads o.op → (∀ z ∈ t :: tfp s.n (s.get t), z ∈ (fpOf P ops o s).1) → ∀ x ∈ t :: tfp s.n (s.get t), x < s.n → (s.get x ≠ .none ∨ s.isVar x = true) ∧ TgIn s.n (fpOf P ops o s).1 (s.get x) := fun t ht hin x hx hxn => by
    simp only [List.mem_cons] at hx
    rcases hx with rfl | hx
    · exact ⟨.inl (hlx _ ht), .inl fun z hz => hin z (by simp [hz])⟩
    · have hy : (s.get t).target = some x := by
        cases e : s.get t <;> rw [e] at hx <;> simp only [tfp, List.mem_cons, List.not_mem_nil, or_false] at hx <;> first
          | (subst hx; rfl)
          | (rcases hx with rfl | rfl
             · rfl
             · exact absurd rfl (Nat.ne_of_lt hxn))
      have hv := tg t x hy
      exact ⟨.inr hv, hvar x hv⟩
  have two : ∀ x ∈ (fpOf P ops o s).1, x < s.n → (s.get x ≠ .none ∨ s.isVar x = true) ∧ TgIn s.n (fpOf P ops o s).1 (s.get x) := fun x hx hxn => by
    simp only [fpOf, List.mem_append] at hx
    rcases hx with hx | hx
    · obtain ⟨h1, h2⟩ := hg x hx
      exact ⟨.inl h1, TgIn.plain h2⟩
    · have sub : ∀ z ∈ rdo s.n o.op s, z ∈ (fpOf P ops o s).1 := fun z hz => List.mem_append_right _ hz
      unfold rdo at hx sub
      split at hx
      · rename_i hlo
        rw [if_pos hlo] at sub
        obtain ⟨a, ha, hx⟩ := List.mem_flatMap.1 hx
        have sub : ∀ z ∈ lrd s.n s a, z ∈ (fpOf P ops o s).1 := fun z hz => sub z (List.mem_flatMap.2 ⟨a, ha, hz⟩)
        cases a with
        | tmp t =>
          simp only [lrd] at hx sub
          split at hx
          · rename_i c e
            split at hx
            · simp only [List.mem_singleton] at hx; omega
            · simp only [List.mem_singleton] at hx
              subst hx
              exact ⟨.inl (hlx _ ha), TgIn.plain (by rw [e]; rfl)⟩
          · rename_i y off e
            simp only [List.mem_cons, List.not_mem_nil, or_false] at hx
            rcases hx with rfl | hx
            · refine ⟨.inl (hlx _ ha), .inr ⟨y, off, e, sub _ ?_⟩⟩
              rw [e]
              simp
            · omega
          · rename_i h1 h2
            refine full t ha (fun z hz => sub z ?_) x hx hxn
            split
            · rename_i c e; exact absurd e (h1 c)
            · rename_i y off e; exact absurd e (h2 y off)
            · exact hz
        | _ => simp [lrd] at hx
      · rename_i hlo
        rw [if_neg hlo] at sub
        simp only [rdq, List.mem_append, List.mem_flatMap] at hx
        rcases hx with ⟨a, ha, hx⟩ | hx
        · cases a with
          | tmp t =>
            refine full t ha (fun z hz => sub z ?_) x hx hxn
            simp only [rdq, List.mem_append, List.mem_flatMap]
            exact .inl ⟨_, ha, hz⟩
          | _ => simp [rdx] at hx
        · have : x = s.n := by
            split at hx
            · split at hx
              · split at hx
                · simpa using hx
                · cases hx
              · cases hx
            · cases hx
          omega
  exact ⟨fun x hx hn => (two x hx hn).1, fun x hx hn => (two x hx hn).2⟩

theorem guardOf_agr {ops : Array Oper} {X : List Nat} {s s' : S} {o : Oper} (h : Agr X s s') {j : Nat} {b : Bool} (ho : o.guard = some (j, b)) (hg : ∀ g ∈ gslot ops o, g ∈ X) : guardOf ops s' j b = guardOf ops s j b := by
  unfold gslot at hg
  simp only [ho] at hg
  unfold guardOf
  cases e : (ops[j]?).bind (·.dst) with
  | none => rfl
  | some g =>
    simp only
    rw [h.get g (hg g (by simp [e]))]
theorem gslot_get {ops : Array Oper} {s : S} {o : Oper} {j : Nat} {b β : Bool} (ho : o.guard = some (j, b)) (h : guardOf ops s j b = some β) : ∀ g ∈ gslot ops o, (s.get g) ≠ .none ∧ (s.get g).target = none := by
  intro g hg
  unfold gslot at hg
  simp only [ho] at hg
  unfold guardOf at h
  cases e : (ops[j]?).bind (·.dst) with
  | none => rw [e] at hg; cases hg
  | some g' =>
    rw [e] at hg h
    simp only [List.mem_singleton] at hg
    subst hg
    simp only at h
    split at h
    · rename_i e2; rw [e2]; exact ⟨by simp, rfl⟩
    · rename_i e2; rw [e2]; exact ⟨by simp, rfl⟩
    · cases h

theorem skip_aps (o : Oper) (s : S) : skipS o s = aps (match o.dst with | some d => [.put d (.tup [])] | none => []) s := by
  unfold skipS
  cases o.dst <;> rfl

theorem aStep_det {P : Program} {ops : Array Oper} {fp : Fp} {o : Oper} {s : S} {K : S → Prop} (tg : Tg s) (wf : Wf s) (h : aStep P ops fp o s K) :
    Seen s fp.1 ∧ ∃ es, K (aps es s) ∧ Eds s fp.1 fp.2 es ∧ ∀ s', Agr fp.1 s s' → Wf s' → ∀ K', K' (aps es s') → aStep P ops fp o s' K' := by
  have main : (fp = fpOf P ops o s ∧ live o s = true) → (∀ g ∈ gslot ops o, (s.get g) ≠ .none ∧ (s.get g).target = none) → aOp P o s K → Seen s fp.1 ∧ ∃ es, K (aps es s) ∧ Eds s fp.1 fp.2 es ∧ ∀ s', Agr fp.1 s s' → Wf s' → ∀ K' : S → Prop, K' (aps es s') → (fp = fpOf P ops o s' ∧ live o s' = true) ∧ aOp P o s' K' := by
    rintro ⟨rfl, hl⟩ hg h
    obtain ⟨es, k1, k2, k3⟩ := aOp_det tg wf h
    have hcl : ∀ x ∈ reads o.op, ClO o.op (fpOf P ops o s).1 s x := rdo_cl fun z hz => List.mem_append_right _ hz
    refine ⟨seen_of tg wf hl hg, es, k1, k2.mono (fun z hz => List.mem_append_right _ hz) (fun _ hz => hz), fun s' ha wf' K' hk' => ⟨⟨(fpOf_agr ha hcl).symm, by rw [live_agr ha hcl]; exact hl⟩, k3 _ s' ha wf' hcl K' hk'⟩⟩
  unfold aStep at h
  cases hgd : o.guard with
  | none =>
    simp only [hgd] at h
    obtain ⟨k0, es, k1, k2, k3⟩ := main h.1 (fun g hg => by simp [gslot, hgd] at hg) h.2
    refine ⟨k0, es, k1, k2, fun s' ha wf' K' hk' => ?_⟩
    unfold aStep
    simp only [hgd]
    exact k3 s' ha wf' K' hk'
  | some jb =>
    obtain ⟨j, b⟩ := jb
    simp only [hgd] at h
    split at h <;> try exact h.elim
    rename_i β hβ
    by_cases hb : β = b
    · obtain ⟨hf, h1⟩ := h.1 hb
      obtain ⟨k0, es, k1, k2, k3⟩ := main hf (gslot_get hgd hβ) h1
      refine ⟨k0, es, k1, k2, fun s' ha wf' K' hk' => ?_⟩
      unfold aStep
      simp only [hgd]
      rw [guardOf_agr ha hgd (fun g hg => by rw [hf.1]; exact List.mem_append_left _ hg), hβ]
      exact ⟨fun _ => k3 s' ha wf' K' hk', fun e => by subst hb; cases β <;> cases e⟩
    · have hb' : β = !b := by cases β <;> cases b <;> simp_all
      obtain ⟨⟨hf, hlt⟩, hk⟩ := h.2 hb'
      subst hf
      rw [skip_aps] at hk
      refine ⟨⟨fun x hx _ => .inl (gslot_get hgd hβ x hx).1, fun x hx _ => TgIn.plain (gslot_get hgd hβ x hx).2⟩, _, hk, ?_, fun s' ha wf' K' hk' => ?_⟩
      · cases hd : o.dst with
        | none => exact Eds.nil _ _ _
        | some d => exact Eds.put rfl (by simp [fpSkip, dstL, hd]) (by simp [fpSkip, dstL, hd])
      · unfold aStep
        simp only [hgd]
        rw [guardOf_agr ha hgd (fun g hg => hg), hβ]
        refine ⟨fun e => absurd e hb, fun _ => ⟨⟨by rw [ha.n], fun d hd => by rw [ha.n]; exact hlt d hd⟩, ?_⟩⟩
        rw [skip_aps]
        exact hk'

end Go.Ax

/- All orders. -/
set_option linter.unusedVariables false
set_option linter.unusedSimpArgs false
namespace Go.Ax
open Go

section
variable {P : Program} {ops : Array Oper}

/-- What holds behind, of a state that looks the same. -/
def kEqv (K : S → Prop) (s : S) : Prop := ∃ s2, Eqv s2 s ∧ Wf s2 ∧ K s2
/-- EVERY ORDER COMES THROUGH. -/
def aAny (P : Program) (ops : Array Oper) (fp : Nat → Fp) (K : S → Prop) : Nat → Array Bool → S → Prop
  | 0, listed, s => Region.ready .any ops listed = [] ∧ kEqv K s
  | m + 1, listed, s => (Region.ready .any ops listed = [] → kEqv K s) ∧ ∀ j o, j ∈ Region.ready .any ops listed → ops[j]? = some o → aStep P ops (fp j) o s (aAny P ops fp K m (listed.setIfInBounds j true))

theorem tg_aps {s : S} (wf : Wf s) (tg : Tg s) {es : List Ed} {rd : List Nat} (g : ∀ e ∈ es, Ed.Good s.isVar s.n rd e) : Tg (aps es s) := by
  intro x y hy
  rw [aps_isVar]
  rw [aps_get wf g] at hy
  have : ∀ (es : List Ed), (∀ e ∈ es, Ed.Good s.isVar s.n rd e) → ∀ u : T, (∀ y, u.target = some y → s.isVar y = true) → ∀ y, (vals s.isVar x es u).target = some y → s.isVar y = true := by
    intro es
    induction es with
    | nil => intro _ u hu y hy; exact hu y hy
    | cons e r ih =>
      intro g u hu y hy
      refine ih (fun e he => g e (by simp [he])) _ (fun y hy => ?_) y hy
      have ge := g e (by simp)
      cases e with
      | put x' t =>
        simp only [Ed.val] at hy
        split at hy
        · exact ge.2.2.1 y hy
        · split at hy
          · cases hy
          · exact hu y hy
      | upd x' t =>
        simp only [Ed.val] at hy
        split at hy
        · split at hy
          · rw [ge.2] at hy; cases hy
          · exact hu y hy
        · exact hu y hy
      | putT x' t =>
        simp only [Ed.val] at hy
        split at hy
        · rw [ge.2] at hy; cases hy
        · exact hu y hy
      | noC =>
        simp only [Ed.val] at hy
        split at hy
        · cases hy
        · exact hu y hy
  exact this es g _ (fun y hy => tg x y hy) y hy

/-- Behind the slots nothing refers. -/
def Tn (s : S) : Prop := ∀ x, s.n ≤ x → (s.get x).target = none
theorem tn_aps {s : S} (wf : Wf s) (tn : Tn s) {es : List Ed} {rd : List Nat} (g : ∀ e ∈ es, Ed.Good s.isVar s.n rd e) : Tn (aps es s) := by
  intro x hx
  rw [aps_n] at hx
  rw [aps_get wf g]
  have : ∀ (es : List Ed), (∀ e ∈ es, Ed.Good s.isVar s.n rd e) → ∀ u : T, u.target = none → (vals s.isVar x es u).target = none := by
    intro es
    induction es with
    | nil => intro _ u hu; exact hu
    | cons e r ih =>
      intro g u hu
      refine ih (fun e he => g e (by simp [he])) _ ?_
      have ge := g e (by simp)
      cases e with
      | put x' t =>
        simp only [Ed.val]
        split
        · rename_i e; subst e; exact ge.2.2.2 hx
        · split
          · rfl
          · exact hu
      | upd x' t =>
        simp only [Ed.val]
        split
        · split
          · exact ge.2
          · exact hu
        · exact hu
      | putT x' t =>
        simp only [Ed.val]
        split
        · exact ge.2
        · exact hu
      | noC =>
        simp only [Ed.val]
        split
        · rfl
        · exact hu
  exact this es g _ (tn x hx)

theorem Eds.at {s s' : S} {rd wr : List Nat} {es : List Ed} (h : Eds s rd wr es) (hn : s'.n = s.n) (hv : ∀ x, s'.isVar x = s.isVar x) : Eds s' rd wr es := by
  have hv' : s'.isVar = s.isVar := funext hv
  exact ⟨fun e he => by rw [hv', hn]; exact h.good e he, fun e he => by rw [hn]; exact h.lie e he⟩

theorem aAny_eqv {fp : Nat → Fp} {K : S → Prop} : ∀ (m : Nat) (listed : Array Bool) (s s' : S), Eqv s s' → Wf s → Tg s → Wf s' → aAny P ops fp K m listed s → aAny P ops fp K m listed s' := by
  intro m
  have hk : ∀ {s s' : S}, Eqv s s' → kEqv K s → kEqv K s' := fun h ⟨s2, h1, h2, h3⟩ => ⟨s2, h1.trans h, h2, h3⟩
  induction m with
  | zero => intro listed s s' he wf tg wf' h; exact ⟨h.1, hk he h.2⟩
  | succ m ih =>
    intro listed s s' he wf tg wf' h
    refine ⟨fun hr => hk he (h.1 hr), fun j o hj ho => ?_⟩
    obtain ⟨k0, es, k1, k2, k3⟩ := aStep_det tg wf (h.2 j o hj ho)
    exact k3 s' (he.agr _) wf' _ (ih _ _ _ (he.aps wf wf' k2.good) (aps_wf wf k2.good) (tg_aps wf tg k2.good) (aps_wf wf' (k2.at he.n he.var).good) k1)

/-- What goes before. -/
inductive Anc (ops : Array Oper) : Nat → Nat → Prop
  | dep {i j : Nat} {o : Oper} {e : Edge} (h : ops[j]? = some o) (he : e ∈ o.after) (hb : Region.binds .any e = true) (hi : e.on = i) : Anc ops i j
  | trans {i k j : Nat} (h1 : Anc ops i k) (h2 : Anc ops k j) : Anc ops i j
def Closed (ops : Array Oper) (listed : Array Bool) : Prop := ∀ k o, listed.getD k false = true → ops[k]? = some o → ∀ e ∈ o.after, Region.binds .any e = true → listed.getD e.on false = true
theorem Closed.anc {listed : Array Bool} (h : Closed ops listed) {i j : Nat} (ha : Anc ops i j) : listed.getD j false = true → listed.getD i false = true := by
  induction ha with
  | dep ho he hb hi => intro hj; subst hi; exact h _ _ hj ho _ he hb
  | trans _ _ ih1 ih2 => intro hj; exact ih1 (ih2 hj)
theorem Closed.ready {listed : Array Bool} (h : Closed ops listed) {i j : Nat} (hj : j ∈ Region.ready .any ops listed) (ha : Anc ops i j) : listed.getD i false = true := by
  obtain ⟨h0, o, ho, hall⟩ := mem_ready.1 hj
  induction ha with
  | dep ho' he hb hi =>
    rw [ho] at ho'
    cases ho'
    subst hi
    exact hall _ he hb
  | trans h1 h2 ih1 ih2 => exact h.anc h1 (ih2 hj h0 ho)
theorem Closed.set {listed : Array Bool} (h : Closed ops listed) {j : Nat} (hj : j ∈ Region.ready .any ops listed) : Closed ops (listed.setIfInBounds j true) := by
  intro k o hk ho e he hb
  by_cases hjk : j = k
  · subst hjk
    obtain ⟨h0, o', ho', hall⟩ := mem_ready.1 hj
    rw [ho] at ho'
    cases ho'
    exact getD_set_true (hall e he hb)
  · rw [getD_set_ne false hjk] at hk
    exact getD_set_true (h k o hk ho e he hb)
theorem getD_false_of {listed : Array Bool} {i : Nat} (h : listed.getD i true = false) : listed.getD i false = false := by
  rcases Nat.lt_or_ge i listed.size with h' | h'
  · simp [h'] at h ⊢; exact h
  · simp [Array.getElem?_eq_none h'] at h

theorem bx_aps {s : S} {rd wr X : List Nat} {es : List Ed} (wf : Wf s) (ge : Eds s rd wr es) (hx : ∀ z ∈ wr, z ∉ X) {y : Nat} (hy : s.n + 1 + y ∈ X) (hv : s.isVar y = true) : ((aps es s).get y).isBox = (s.get y).isBox := by
  rw [aps_get wf ge.good]
  refine vals_box fun e he => ⟨fun t e2 => ?_, fun t e2 => ?_⟩
  · exact hx _ ((ge.lie e he).2 y t e2) hy
  · have := ge.good e he
    rw [e2] at this
    rw [this.1] at hv
    cases hv
theorem agr_back {s : S} {fi fj : Fp} {es : List Ed} (wf : Wf s) (tn : Tn s) (ge : Eds s fi.1 fi.2 es) (hap : Apart s.n fi.1 fi.2 fj.1 fj.2) (hs : Seen (aps es s) fj.1) : Agr fj.1 (aps es s) s := by
  refine ⟨(aps_n es s).symm, fun x => (aps_isVar es s x).symm, fun x hx => ?_, fun y hy hv => ?_⟩
  · have h1 : ∀ e ∈ es, e.slot s.n ≠ x := fun e he e2 => (hap.1 _ (ge.lie e he).1).1 (e2 ▸ hx)
    have pl : (s.get x).target = none → s.get x = (aps es s).get x := fun h => by
      rw [aps_get wf ge.good]
      exact (vals_same h1 (fun e he => kills_plain h)).symm
    rcases Nat.lt_or_ge x s.n with hlt | hge
    · rcases hs.live x hx (by rw [aps_n]; exact hlt) with k | k
      · rw [aps_get wf ge.good] at k ⊢
        rcases vals_less (isv := s.isVar) (u := s.get x) h1 with h | h
        · exact h.symm
        · exact absurd h k
      · rw [aps_isVar] at k
        exact pl (wf x k).2
    · exact pl (tn x hge)
  · rw [aps_n] at hy
    rw [aps_isVar] at hv
    exact (bx_aps wf ge (fun z hz => (hap.1 z hz).1) hy hv).symm
theorem agr_fwd {s : S} {fi fj : Fp} {es : List Ed} (wf : Wf s) (tn : Tn s) (ge : Eds s fj.1 fj.2 es) (hap : Apart s.n fi.1 fi.2 fj.1 fj.2) (hs : Seen s fi.1) : Agr fi.1 s (aps es s) := by
  refine ⟨aps_n es s, fun x => aps_isVar es s x, fun x hx => ?_, fun y hy hv => bx_aps wf ge (fun z hz => (hap.2 z hz).1) hy hv⟩
  rw [aps_get wf ge.good]
  refine vals_same (n := s.n) (fun e he e2 => (hap.2 _ (ge.lie e he).1).1 (e2 ▸ hx)) (fun e he => ?_)
  rcases Nat.lt_or_ge x s.n with hlt | hge
  · exact not_kills (hs.tgt x hx hlt) (ge.lie e he) (fun z hz => (hap.2 z hz).1)
  · exact kills_plain (tn x hge)

theorem eqv_comm {s : S} {fi fj : Fp} {ei ej : List Ed} (wf : Wf s) (gi : Eds s fi.1 fi.2 ei) (gj : Eds s fj.1 fj.2 ej) (hap : Apart s.n fi.1 fi.2 fj.1 fj.2) : Eqv (aps ej (aps ei s)) (aps ei (aps ej s)) := by
  refine ⟨by simp only [aps_n], fun x => by simp only [aps_isVar], fun x => ?_⟩
  have wi := aps_wf wf gi.good
  have wj := aps_wf wf gj.good
  rw [aps_get wj (gi.at (aps_n _ _) (aps_isVar _ _)).good, aps_get wf gj.good, aps_get wi (gj.at (aps_n _ _) (aps_isVar _ _)).good, aps_get wf gi.good, aps_isVar', aps_isVar']
  refine vals_comm (n := s.n) (fun a ha b hb u => ?_) _
  exact Ed.val_comm (gi.good a ha) (gj.good b hb) (gi.lie a ha) (gj.lie b hb) hap u

/-- THE FIRST OPERATION IN THE WRITTEN ORDER MAY COME LATER. -/
theorem aAny_first {fp : Nat → Fp} {K : S → Prop} {i : Nat} {oi : Oper} (hi : ops[i]? = some oi) {n : Nat} : ∀ (m : Nat) (listed : Array Bool) (s : S), s.n = n → Wf s → Tg s → Tn s → i ∈ Region.ready .any ops listed → Closed ops listed →
    (∀ j, listed.getD j true = false → j ≠ i → ¬ Anc ops i j → Apart n (fp i).1 (fp i).2 (fp j).1 (fp j).2) →
    aStep P ops (fp i) oi s (aAny P ops fp K m (listed.setIfInBounds i true)) → aAny P ops fp K (m + 1) listed s := by
  intro m
  induction m with
  | zero =>
    intro listed s hsn wf tg tn hr hcl hap h
    refine ⟨fun e => (by rw [e] at hr; cases hr), fun j oj hj hoj => ?_⟩
    by_cases hji : j = i
    · subst hji; rw [hi] at hoj; cases hoj; exact h
    · obtain ⟨_, es, k1, _, _⟩ := aStep_det tg wf h
      have := ready_mono hj hji
      rw [k1.1] at this
      cases this
  | succ m ih =>
    intro listed s hsn wf tg tn hr hcl hap h
    refine ⟨fun e => (by rw [e] at hr; cases hr), fun j oj hj hoj => ?_⟩
    by_cases hji : j = i
    · subst hji; rw [hi] at hoj; cases hoj; exact h
    · obtain ⟨si, ei, k1, gi, ki⟩ := aStep_det tg wf h
      have hun : listed.getD j true = false := (mem_ready.1 hj).1
      have hnanc : ¬ Anc ops i j := fun ha => by
        have h1 := hcl.ready hj ha
        rw [getD_false_of (mem_ready.1 hr).1] at h1
        cases h1
      have hij := hap j hun hji hnanc
      subst hsn
      have wf1 := aps_wf wf gi.good
      have tg1 := tg_aps wf tg gi.good
      obtain ⟨sj, ej, l1, gj1, kj⟩ := aStep_det tg1 wf1 (k1.2 j oj (ready_mono hj hji) hoj)
      have gj : Eds s (fp j).1 (fp j).2 ej := gj1.at (aps_n _ _).symm (fun x => (aps_isVar _ _ x).symm)
      refine kj s (agr_back wf tn gi hij sj) wf _ ?_
      have wf2 := aps_wf wf gj.good
      refine ih _ (aps ej s) (aps_n _ _) wf2 (tg_aps wf tg gj.good) (tn_aps wf tn gj.good) (ready_mono hr (Ne.symm hji)) (hcl.set hj) (fun k hk hki hna => hap k ?_ hki hna) ?_
      · by_cases hjk : j = k
        · subst hjk; exact hun
        · rw [getD_set_ne true hjk] at hk; exact hk
      · refine ki (aps ej s) (agr_fwd wf tn gj hij si) wf2 _ ?_
        rw [Array.setIfInBounds_comm _ _ hji]
        exact aAny_eqv m _ _ _ (eqv_comm wf gi gj hij) (aps_wf wf1 gj1.good) (tg_aps wf1 tg1 gj1.good) (aps_wf wf2 (gi.at (aps_n _ _) (aps_isVar _ _)).good) l1

end
end Go.Ax
