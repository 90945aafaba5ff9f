/- A region that draws its order: its written order stands for all. -/
import Derived.Test.YtmpbhgofllbejaaLibC
set_option linter.unusedVariables false
set_option linter.unusedSimpArgs false
set_option linter.unusedVariables false
set_option linter.unusedSimpArgs false
namespace Go.Ax
open Go

def wr (P : Program) (o : Oper) (s : S) : List Nat :=
  match o.dst with
  | some d => d :: (if loud P o.type o.op s d = true then wop s.n o.op s else [])
  | none => wop s.n o.op s

theorem loud_agr {P : Program} {ty : TypeId} {op : Op} {X : List Nat} {s s' : S} {d : Nat} (h : Agr X s s') (hc : ∀ x ∈ reads op, Cl X s x) : loud P ty op s' d = loud P ty op s d := by
  have ev1 : ∀ x, x ∈ reads op → ev s' x = ev s x := fun x hx => ev_agr h (hc x hx)
  cases op <;> simp only [loud]
  case move x => rw [ev1 x (by simp [reads, Op.operands]), h.var]
  case extract x j => rw [ev1 x (by simp [reads, Op.operands])]
  case call c =>
    have ha : ∀ x ∈ c.args.toList, ev s' x = ev s x := fun x hx => ev1 x (by
      simp only [reads, Op.operands, Call.operands]
      cases hc : c.callee <;> simp_all)
    have this : (c.args.toList.all fun x => (ev s' x).plain) = c.args.toList.all fun x => (ev s x).plain := by
      rw [Bool.eq_iff_iff, List.all_eq_true, List.all_eq_true]
      exact ⟨fun g x hx => by rw [← ha x hx]; exact g x hx, fun g x hx => by rw [ha x hx]; exact g x hx⟩
    rw [this]

theorem aOp_det {P : Program} {o : Oper} {s : S} {K : S → Prop} (tg : Tg s) (wf : Wf s) (h : aOp P o s K) : Det s (rdq s.n o.op s) (wr P o s) o.op (aOp P o) K := by
  unfold aOp at h
  unfold wr
  split at h
  · rename_i d hd
    obtain ⟨hlt, h⟩ := h
    simp only [hd]
    split at h
    · rename_i hl
      obtain ⟨es, k1, k2, k3⟩ := eOp_det tg wf h
      refine ⟨es, k1, k2.mono (by simp) (by rw [if_pos hl]; exact fun _ hz => hz), fun X s' ha wf' hc K' hk' => ?_⟩
      unfold aOp
      simp only [hd]
      refine ⟨by rw [ha.n]; exact hlt, ?_⟩
      rw [loud_agr ha hc, if_pos hl]
      exact k3 X s' ha wf' hc K' hk'
    · rename_i hl
      obtain ⟨t, ⟨k1, k2⟩, k3, k4, k5⟩ := qOp_det s.n h
      refine ⟨[.put d t], k2, Eds.cons ⟨k1, k4, fun y hy => ?_⟩ (by simp [Ed.slot]) (Eds.nil _ _ _), fun X s' ha wf' hc K' hk' => ?_⟩
      · obtain ⟨x, hx, hxy⟩ := k5 y hy
        exact (ev_var tg hxy).1
      · unfold aOp
        simp only [hd]
        refine ⟨by rw [ha.n]; exact hlt, ?_⟩
        rw [loud_agr ha hc, if_neg hl]
        rw [qOp_congr (e2 := ev s) fun x hx => ev_agr ha (hc x hx)]
        exact k3 _ ⟨fun e => k1 (by rw [← ha.var]; exact e), hk'⟩
  · rename_i hd
    simp only [hd]
    obtain ⟨dst, op, type, pos, after, guard⟩ := o
    cases op <;> simp only at h <;> try exact h.elim
    rename_i t a x
    simp only at hd
    obtain ⟨es, k1, k2, k3⟩ := eStore_det (op := .store t a x) tg wf (by simp [reads, Op.operands]) (by simp [reads, Op.operands]) h
    refine ⟨es, k1, k2.mono (by simp) (fun z hz => ?_), fun X s' ha wf' hc K' hk' => ?_⟩
    · simpa [wop, reads, Op.operands] using hz
    · unfold aOp
      simp only [hd]
      exact k3 X s' ha wf' hc K' hk'

/-! ### A step with its footprint -/
def gslot (ops : Array Oper) (o : Oper) : List Nat :=
  match o.guard with
  | none => []
  | some (j, _) => match (ops[j]?).bind (·.dst) with
    | some g => [g]
    | none => []
def liveX (s : S) (x : Operand) : Bool :=
  match x with
  | .tmp t => match s.get t with
    | .none => false
    | _ => true
  | _ => true
def live (o : Oper) (s : S) : Bool := (reads o.op).all (liveX s)
def dstL (o : Oper) : List Nat := o.dst.toList
abbrev Fp := List Nat × List Nat
def fpOf (P : Program) (ops : Array Oper) (o : Oper) (s : S) : Fp := (gslot ops o ++ rdq s.n o.op s, wr P o s)
def fpSkip (ops : Array Oper) (o : Oper) : Fp := (gslot ops o, dstL o)
def aStep (P : Program) (ops : Array Oper) (fp : Fp) (o : Oper) (s : S) (K : S → Prop) : Prop :=
  match o.guard with
  | none => (fp = fpOf P ops o s ∧ live o s = true) ∧ aOp P o s K
  | some (j, b) => match guardOf ops s j b with
    | some β => (β = b → (fp = fpOf P ops o s ∧ live o s = true) ∧ aOp P o s K) ∧ (β = !b → (fp = fpSkip ops o ∧ ∀ d, o.dst = some d → d < s.n) ∧ K (skipS o s))
    | none => False

theorem rdq_agr {n : Nat} {op : Op} {X : List Nat} {s s' : S} (h : Agr X s s') (hc : ∀ x ∈ reads op, Cl X s x) : rdq n op s' = rdq n op s := by
  unfold rdq
  have h1 : (reads op).flatMap (rdx n s') = (reads op).flatMap (rdx n s) := by
    rw [List.flatMap_def, List.flatMap_def]
    congr 1
    refine List.map_congr_left fun x hx => ?_
    cases x with
    | tmp t => simp only [rdx, h.get t (hc _ hx t rfl).1]
    | _ => rfl
  rw [h1]
  congr 1
  cases op <;> try rfl
  rename_i t a
  simp only
  rw [ev_agr h (hc a (by simp [reads, Op.operands]))]
theorem wx_agr {n : Nat} {X : List Nat} {s s' : S} (h : Agr X s s') {x : Operand} (hc : Cl X s x) : wx n s' x = wx n s x := by
  cases x with
  | tmp t =>
    have : opd s' (.tmp t) = opd s (.tmp t) := congrArg R.t (ev_agr h hc)
    simp only [wx, this]
  | _ => rfl
theorem wop_agr {n : Nat} {op : Op} {X : List Nat} {s s' : S} (h : Agr X s s') (hc : ∀ x ∈ reads op, Cl X s x) : wop n op s' = wop n op s := by
  unfold wop
  congr 1
  rw [List.flatMap_def, List.flatMap_def]
  congr 1
  exact List.map_congr_left fun x hx => wx_agr h (hc x hx)
theorem fpOf_agr {P : Program} {ops : Array Oper} {o : Oper} {X : List Nat} {s s' : S} (h : Agr X s s') (hc : ∀ x ∈ reads o.op, Cl X s x) : fpOf P ops o s' = fpOf P ops o s := by
  unfold fpOf wr
  rw [h.n, rdq_agr h hc, wop_agr h hc]
  congr 1
  cases o.dst with
  | none => rfl
  | some d => simp only [loud_agr h hc]
theorem live_agr {o : Oper} {X : List Nat} {s s' : S} (h : Agr X s s') (hc : ∀ x ∈ reads o.op, Cl X s x) : live o s' = live o s := by
  unfold live
  have : ∀ x ∈ reads o.op, liveX s' x = liveX s x := fun x hx => by
    cases x with
    | tmp t => simp only [liveX, h.get t (hc _ hx t rfl).1]
    | _ => rfl
  rw [Bool.eq_iff_iff, List.all_eq_true, List.all_eq_true]
  exact ⟨fun g x hx => by rw [← this x hx]; exact g x hx, fun g x hx => by rw [this x hx]; exact g x hx⟩

/-- What a footprint's reads are. -/
structure Seen (s : S) (rd : List Nat) : Prop where
  live : ∀ x ∈ rd, x ≠ s.n → s.get x ≠ .none ∨ s.isVar x = true
  tgt : ∀ x ∈ rd, x ≠ s.n → ∀ z ∈ tfp s.n (s.get x), z ∈ rd

theorem seen_of {P : Program} {ops : Array Oper} {o : Oper} {s : S} (tg : Tg s) (wf : Wf s) (hl : live o s = true) (hg : ∀ g ∈ gslot ops o, (s.get g) ≠ .none ∧ (s.get g).target = none) : Seen s (fpOf P ops o s).1 := by
  have hvar : ∀ y, s.isVar y = true → ∀ z ∈ tfp s.n (s.get y), z ∈ (fpOf P ops o s).1 := fun y hy z hz => by rw [tfp_nil (wf y hy).2] at hz; cases hz
  have opx : ∀ x ∈ reads o.op, ∀ z ∈ rdx s.n s x, z ∈ (fpOf P ops o s).1 := fun x hx z hz => by
    simp only [fpOf, rdq]
    exact List.mem_append_right _ (List.mem_append_left _ (List.mem_flatMap.2 ⟨x, hx, hz⟩))
  have hlx : ∀ t, .tmp t ∈ reads o.op → s.get t ≠ .none := fun t ht e => by
    have := List.all_eq_true.1 hl _ ht
    simp [liveX, e] at this
  have two : ∀ x ∈ (fpOf P ops o s).1, x ≠ s.n → (s.get x ≠ .none ∨ s.isVar x = true) ∧ ∀ z ∈ tfp s.n (s.get x), z ∈ (fpOf P ops o s).1 := fun x hx hxn => by
    have hx' := hx
    simp only [fpOf, rdq, List.mem_append, List.mem_flatMap] at hx
    rcases hx with hx | ⟨a, ha, hx⟩ | hx
    · obtain ⟨h1, h2⟩ := hg x hx
      exact ⟨.inl h1, fun z hz => by rw [tfp_nil h2] at hz; cases hz⟩
    · cases a with
      | tmp t =>
        simp only [rdx, List.mem_cons] at hx
        rcases hx with rfl | hx
        · exact ⟨.inl (hlx _ ha), fun z hz => opx _ ha z (by simp [rdx, hz])⟩
        · have hy : (s.get t).target = some x := by
            cases e : s.get t <;> rw [e] at hx <;> simp only [tfp, List.mem_cons, List.not_mem_nil, or_false] at hx <;> first
              | (subst hx; rfl)
              | (rcases hx with rfl | rfl
                 · rfl
                 · exact absurd rfl hxn)
          have hv := tg t x hy
          exact ⟨.inr hv, hvar x hv⟩
      | _ => simp [rdx] at hx
    · have : x = s.n := by
        split at hx
        · split at hx
          · split at hx
            · simpa using hx
            · cases hx
          · cases hx
        · cases hx
      exact absurd this hxn
  exact ⟨fun x hx hn => (two x hx hn).1, fun x hx hn => (two x hx hn).2⟩

theorem guardOf_agr {ops : Array Oper} {X : List Nat} {s s' : S} {o : Oper} (h : Agr X s s') {j : Nat} {b : Bool} (ho : o.guard = some (j, b)) (hg : ∀ g ∈ gslot ops o, g ∈ X) : guardOf ops s' j b = guardOf ops s j b := by
  unfold gslot at hg
  simp only [ho] at hg
  unfold guardOf
  cases e : (ops[j]?).bind (·.dst) with
  | none => rfl
  | some g =>
    simp only
    rw [h.get g (hg g (by simp [e]))]
theorem gslot_get {ops : Array Oper} {s : S} {o : Oper} {j : Nat} {b β : Bool} (ho : o.guard = some (j, b)) (h : guardOf ops s j b = some β) : ∀ g ∈ gslot ops o, (s.get g) ≠ .none ∧ (s.get g).target = none := by
  intro g hg
  unfold gslot at hg
  simp only [ho] at hg
  unfold guardOf at h
  cases e : (ops[j]?).bind (·.dst) with
  | none => rw [e] at hg; cases hg
  | some g' =>
    rw [e] at hg h
    simp only [List.mem_singleton] at hg
    subst hg
    simp only at h
    split at h
    · rename_i e2; rw [e2]; exact ⟨by simp, rfl⟩
    · rename_i e2; rw [e2]; exact ⟨by simp, rfl⟩
    · cases h

theorem skip_aps (o : Oper) (s : S) : skipS o s = aps (match o.dst with | some d => [.put d (.tup [])] | none => []) s := by
  unfold skipS
  cases o.dst <;> rfl

theorem aStep_det {P : Program} {ops : Array Oper} {fp : Fp} {o : Oper} {s : S} {K : S → Prop} (tg : Tg s) (wf : Wf s) (h : aStep P ops fp o s K) :
    Seen s fp.1 ∧ ∃ es, K (aps es s) ∧ Eds s fp.1 fp.2 es ∧ ∀ s', Agr fp.1 s s' → Wf s' → ∀ K', K' (aps es s') → aStep P ops fp o s' K' := by
  have main : (fp = fpOf P ops o s ∧ live o s = true) → (∀ g ∈ gslot ops o, (s.get g) ≠ .none ∧ (s.get g).target = none) → aOp P o s K → Seen s fp.1 ∧ ∃ es, K (aps es s) ∧ Eds s fp.1 fp.2 es ∧ ∀ s', Agr fp.1 s s' → Wf s' → ∀ K' : S → Prop, K' (aps es s') → (fp = fpOf P ops o s' ∧ live o s' = true) ∧ aOp P o s' K' := by
    rintro ⟨rfl, hl⟩ hg h
    obtain ⟨es, k1, k2, k3⟩ := aOp_det tg wf h
    have hcl : ∀ x ∈ reads o.op, Cl (fpOf P ops o s).1 s x := fun x hx => rdx_cl (n := s.n) fun z hz => by
      simp only [fpOf, rdq]
      exact List.mem_append_right _ (List.mem_append_left _ (List.mem_flatMap.2 ⟨x, hx, hz⟩))
    refine ⟨seen_of tg wf hl hg, es, k1, k2.mono (fun z hz => List.mem_append_right _ hz) (fun _ hz => hz), fun s' ha wf' K' hk' => ⟨⟨(fpOf_agr ha hcl).symm, by rw [live_agr ha hcl]; exact hl⟩, k3 _ s' ha wf' hcl K' hk'⟩⟩
  unfold aStep at h
  cases hgd : o.guard with
  | none =>
    simp only [hgd] at h
    obtain ⟨k0, es, k1, k2, k3⟩ := main h.1 (fun g hg => by simp [gslot, hgd] at hg) h.2
    refine ⟨k0, es, k1, k2, fun s' ha wf' K' hk' => ?_⟩
    unfold aStep
    simp only [hgd]
    exact k3 s' ha wf' K' hk'
  | some jb =>
    obtain ⟨j, b⟩ := jb
    simp only [hgd] at h
    split at h <;> try exact h.elim
    rename_i β hβ
    by_cases hb : β = b
    · obtain ⟨hf, h1⟩ := h.1 hb
      obtain ⟨k0, es, k1, k2, k3⟩ := main hf (gslot_get hgd hβ) h1
      refine ⟨k0, es, k1, k2, fun s' ha wf' K' hk' => ?_⟩
      unfold aStep
      simp only [hgd]
      rw [guardOf_agr ha hgd (fun g hg => by rw [hf.1]; exact List.mem_append_left _ hg), hβ]
      exact ⟨fun _ => k3 s' ha wf' K' hk', fun e => by subst hb; cases β <;> cases e⟩
    · have hb' : β = !b := by cases β <;> cases b <;> simp_all
      obtain ⟨⟨hf, hlt⟩, hk⟩ := h.2 hb'
      subst hf
      rw [skip_aps] at hk
      refine ⟨⟨fun x hx _ => .inl (gslot_get hgd hβ x hx).1, fun x hx _ z hz => by rw [tfp_nil (gslot_get hgd hβ x hx).2] at hz; cases hz⟩, _, hk, ?_, fun s' ha wf' K' hk' => ?_⟩
      · cases hd : o.dst with
        | none => exact Eds.nil _ _ _
        | some d => exact Eds.cons (Good.plain rfl) (by simp [Ed.slot, fpSkip, dstL, hd]) (Eds.nil _ _ _)
      · unfold aStep
        simp only [hgd]
        rw [guardOf_agr ha hgd (fun g hg => hg), hβ]
        refine ⟨fun e => absurd e hb, fun _ => ⟨⟨trivial, fun d hd => by rw [ha.n]; exact hlt d hd⟩, ?_⟩⟩
        rw [skip_aps]
        exact hk'

end Go.Ax

/- All orders. -/
set_option linter.unusedVariables false
set_option linter.unusedSimpArgs false
namespace Go.Ax
open Go

section
variable {P : Program} {ops : Array Oper}

/-- What holds behind, of a state that looks the same. -/
def kEqv (K : S → Prop) (s : S) : Prop := ∃ s2, Eqv s2 s ∧ Wf s2 ∧ K s2
/-- EVERY ORDER COMES THROUGH. -/
def aAny (P : Program) (ops : Array Oper) (fp : Nat → Fp) (K : S → Prop) : Nat → Array Bool → S → Prop
  | 0, listed, s => Region.ready .any ops listed = [] ∧ kEqv K s
  | m + 1, listed, s => (Region.ready .any ops listed = [] → kEqv K s) ∧ ∀ j o, j ∈ Region.ready .any ops listed → ops[j]? = some o → aStep P ops (fp j) o s (aAny P ops fp K m (listed.setIfInBounds j true))

theorem tg_aps {s : S} (wf : Wf s) (tg : Tg s) {es : List Ed} {rd : List Nat} (g : ∀ e ∈ es, Ed.Good s.isVar s.n rd e) : Tg (aps es s) := by
  intro x y hy
  rw [aps_isVar]
  rw [aps_get wf g] at hy
  have : ∀ (es : List Ed), (∀ e ∈ es, Ed.Good s.isVar s.n rd e) → ∀ u : T, (∀ y, u.target = some y → s.isVar y = true) → ∀ y, (vals s.isVar x es u).target = some y → s.isVar y = true := by
    intro es
    induction es with
    | nil => intro _ u hu y hy; exact hu y hy
    | cons e r ih =>
      intro g u hu y hy
      refine ih (fun e he => g e (by simp [he])) _ (fun y hy => ?_) y hy
      have ge := g e (by simp)
      cases e with
      | put x' t =>
        simp only [Ed.val] at hy
        split at hy
        · exact ge.2.2 y hy
        · split at hy
          · cases hy
          · exact hu y hy
      | upd x' t =>
        simp only [Ed.val] at hy
        split at hy
        · rw [ge.2] at hy; cases hy
        · exact hu y hy
      | putT x' t =>
        simp only [Ed.val] at hy
        split at hy
        · rw [ge.2] at hy; cases hy
        · exact hu y hy
      | noC =>
        simp only [Ed.val] at hy
        split at hy
        · cases hy
        · exact hu y hy
  exact this es g _ (fun y hy => tg x y hy) y hy

theorem Eds.at {s s' : S} {rd wr : List Nat} {es : List Ed} (h : Eds s rd wr es) (hn : s'.n = s.n) (hv : ∀ x, s'.isVar x = s.isVar x) : Eds s' rd wr es := by
  have hv' : s'.isVar = s.isVar := funext hv
  exact ⟨fun e he => by rw [hv', hn]; exact h.good e he, fun e he => by rw [hn]; exact h.lie e he⟩

theorem aAny_eqv {fp : Nat → Fp} {K : S → Prop} : ∀ (m : Nat) (listed : Array Bool) (s s' : S), Eqv s s' → Wf s → Tg s → Wf s' → aAny P ops fp K m listed s → aAny P ops fp K m listed s' := by
  intro m
  have hk : ∀ {s s' : S}, Eqv s s' → kEqv K s → kEqv K s' := fun h ⟨s2, h1, h2, h3⟩ => ⟨s2, h1.trans h, h2, h3⟩
  induction m with
  | zero => intro listed s s' he wf tg wf' h; exact ⟨h.1, hk he h.2⟩
  | succ m ih =>
    intro listed s s' he wf tg wf' h
    refine ⟨fun hr => hk he (h.1 hr), fun j o hj ho => ?_⟩
    obtain ⟨k0, es, k1, k2, k3⟩ := aStep_det tg wf (h.2 j o hj ho)
    exact k3 s' (he.agr _) wf' _ (ih _ _ _ (he.aps wf wf' k2.good) (aps_wf wf k2.good) (tg_aps wf tg k2.good) (aps_wf wf' (k2.at he.n he.var).good) k1)

/-- What goes before. -/
inductive Anc (ops : Array Oper) : Nat → Nat → Prop
  | dep {i j : Nat} {o : Oper} {e : Edge} (h : ops[j]? = some o) (he : e ∈ o.after) (hb : Region.binds .any e = true) (hi : e.on = i) : Anc ops i j
  | trans {i k j : Nat} (h1 : Anc ops i k) (h2 : Anc ops k j) : Anc ops i j
def Closed (ops : Array Oper) (listed : Array Bool) : Prop := ∀ k o, listed.getD k false = true → ops[k]? = some o → ∀ e ∈ o.after, Region.binds .any e = true → listed.getD e.on false = true
theorem Closed.anc {listed : Array Bool} (h : Closed ops listed) {i j : Nat} (ha : Anc ops i j) : listed.getD j false = true → listed.getD i false = true := by
  induction ha with
  | dep ho he hb hi => intro hj; subst hi; exact h _ _ hj ho _ he hb
  | trans _ _ ih1 ih2 => intro hj; exact ih1 (ih2 hj)
theorem Closed.ready {listed : Array Bool} (h : Closed ops listed) {i j : Nat} (hj : j ∈ Region.ready .any ops listed) (ha : Anc ops i j) : listed.getD i false = true := by
  obtain ⟨h0, o, ho, hall⟩ := mem_ready.1 hj
  induction ha with
  | dep ho' he hb hi =>
    rw [ho] at ho'
    cases ho'
    subst hi
    exact hall _ he hb
  | trans h1 h2 ih1 ih2 => exact h.anc h1 (ih2 hj h0 ho)
theorem Closed.set {listed : Array Bool} (h : Closed ops listed) {j : Nat} (hj : j ∈ Region.ready .any ops listed) : Closed ops (listed.setIfInBounds j true) := by
  intro k o hk ho e he hb
  by_cases hjk : j = k
  · subst hjk
    obtain ⟨h0, o', ho', hall⟩ := mem_ready.1 hj
    rw [ho] at ho'
    cases ho'
    exact getD_set_true (hall e he hb)
  · rw [getD_set_ne false hjk] at hk
    exact getD_set_true (h k o hk ho e he hb)
theorem getD_false_of {listed : Array Bool} {i : Nat} (h : listed.getD i true = false) : listed.getD i false = false := by
  rcases Nat.lt_or_ge i listed.size with h' | h'
  · simp [h'] at h ⊢; exact h
  · simp [Array.getElem?_eq_none h'] at h

theorem agr_back {s : S} {fi fj : Fp} {es : List Ed} (wf : Wf s) (ge : Eds s fi.1 fi.2 es) (hap : Apart s.n fi.1 fi.2 fj.1 fj.2) (hn : s.n ∉ fj.1) (hs : Seen (aps es s) fj.1) : Agr fj.1 (aps es s) s := by
  refine ⟨(aps_n es s).symm, fun x => (aps_isVar es s x).symm, fun x hx => ?_⟩
  have h1 : ∀ e ∈ es, e.slot s.n ≠ x := fun e he e2 => (hap.1 _ (ge.lie e he)).1 (e2 ▸ hx)
  rw [aps_get wf ge.good]
  rcases vals_less (isv := s.isVar) (u := s.get x) h1 with h | h
  · exact h.symm
  · rcases hs.live x hx (fun e => hn ((aps_n es s) ▸ e ▸ hx)) with k | k
    · rw [aps_get wf ge.good] at k; exact absurd h k
    · rw [aps_isVar] at k
      exact (vals_same h1 (fun e he => by rw [tfp_nil (wf x k).2]; simp)).symm
theorem agr_fwd {s : S} {fi fj : Fp} {es : List Ed} (wf : Wf s) (ge : Eds s fj.1 fj.2 es) (hap : Apart s.n fi.1 fi.2 fj.1 fj.2) (hn : s.n ∉ fi.1) (hs : Seen s fi.1) : Agr fi.1 s (aps es s) := by
  refine ⟨aps_n es s, fun x => aps_isVar es s x, fun x hx => ?_⟩
  rw [aps_get wf ge.good]
  refine vals_same (n := s.n) (fun e he e2 => (hap.2 _ (ge.lie e he)).1 (e2 ▸ hx)) (fun e he hm => ?_)
  exact (hap.2 _ (ge.lie e he)).1 (hs.tgt x hx (fun e => hn (e ▸ hx)) _ hm)

theorem eqv_comm {s : S} {fi fj : Fp} {ei ej : List Ed} (wf : Wf s) (gi : Eds s fi.1 fi.2 ei) (gj : Eds s fj.1 fj.2 ej) (hap : Apart s.n fi.1 fi.2 fj.1 fj.2) : Eqv (aps ej (aps ei s)) (aps ei (aps ej s)) := by
  refine ⟨by simp only [aps_n], fun x => by simp only [aps_isVar], fun x => ?_⟩
  have wi := aps_wf wf gi.good
  have wj := aps_wf wf gj.good
  rw [aps_get wj (gi.at (aps_n _ _) (aps_isVar _ _)).good, aps_get wf gj.good, aps_get wi (gj.at (aps_n _ _) (aps_isVar _ _)).good, aps_get wf gi.good, aps_isVar', aps_isVar']
  refine vals_comm (n := s.n) (fun a ha b hb u => ?_) _
  exact Ed.val_comm (gi.good a ha) (gj.good b hb) (fun e => (hap.1 _ (gi.lie a ha)).2 (e ▸ gj.lie b hb)) (hap.1 _ (gi.lie a ha)).1 (hap.2 _ (gj.lie b hb)).1 u

/-- THE FIRST OPERATION IN THE WRITTEN ORDER MAY COME LATER. -/
theorem aAny_first {fp : Nat → Fp} {K : S → Prop} {i : Nat} {oi : Oper} (hi : ops[i]? = some oi) {n : Nat} (hn : ∀ j, n ∉ (fp j).1) : ∀ (m : Nat) (listed : Array Bool) (s : S), s.n = n → Wf s → Tg s → i ∈ Region.ready .any ops listed → Closed ops listed →
    (∀ j, listed.getD j true = false → j ≠ i → ¬ Anc ops i j → Apart n (fp i).1 (fp i).2 (fp j).1 (fp j).2) →
    aStep P ops (fp i) oi s (aAny P ops fp K m (listed.setIfInBounds i true)) → aAny P ops fp K (m + 1) listed s := by
  intro m
  induction m with
  | zero =>
    intro listed s hsn wf tg hr hcl hap h
    refine ⟨fun e => (by rw [e] at hr; cases hr), fun j oj hj hoj => ?_⟩
    by_cases hji : j = i
    · subst hji; rw [hi] at hoj; cases hoj; exact h
    · obtain ⟨_, es, k1, _, _⟩ := aStep_det tg wf h
      have := ready_mono hj hji
      rw [k1.1] at this
      cases this
  | succ m ih =>
    intro listed s hsn wf tg hr hcl hap h
    refine ⟨fun e => (by rw [e] at hr; cases hr), fun j oj hj hoj => ?_⟩
    by_cases hji : j = i
    · subst hji; rw [hi] at hoj; cases hoj; exact h
    · obtain ⟨si, ei, k1, gi, ki⟩ := aStep_det tg wf h
      have hun : listed.getD j true = false := (mem_ready.1 hj).1
      have hnanc : ¬ Anc ops i j := fun ha => by
        have h1 := hcl.ready hj ha
        rw [getD_false_of (mem_ready.1 hr).1] at h1
        cases h1
      have hij := hap j hun hji hnanc
      subst hsn
      have wf1 := aps_wf wf gi.good
      have tg1 := tg_aps wf tg gi.good
      obtain ⟨sj, ej, l1, gj1, kj⟩ := aStep_det tg1 wf1 (k1.2 j oj (ready_mono hj hji) hoj)
      have gj : Eds s (fp j).1 (fp j).2 ej := gj1.at (aps_n _ _).symm (fun x => (aps_isVar _ _ x).symm)
      refine kj s (agr_back wf gi hij (hn j) sj) wf _ ?_
      have wf2 := aps_wf wf gj.good
      refine ih _ (aps ej s) (aps_n _ _) wf2 (tg_aps wf tg gj.good) (ready_mono hr (Ne.symm hji)) (hcl.set hj) (fun k hk hki hna => hap k ?_ hki hna) ?_
      · by_cases hjk : j = k
        · subst hjk; exact hun
        · rw [getD_set_ne true hjk] at hk; exact hk
      · refine ki (aps ej s) (agr_fwd wf gj hij (hn i) si) wf2 _ ?_
        rw [Array.setIfInBounds_comm _ _ hji]
        exact aAny_eqv m _ _ _ (eqv_comm wf gi gj hij) (aps_wf wf1 gj1.good) (tg_aps wf1 tg1 gj1.good) (aps_wf wf2 (gi.at (aps_n _ _) (aps_isVar _ _)).good) l1

end
end Go.Ax
