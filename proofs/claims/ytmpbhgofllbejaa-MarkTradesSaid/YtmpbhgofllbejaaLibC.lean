/- An operation's step; a region in its written order. -/
import Derived.Test.YtmpbhgofllbejaaLibB
import Derived.Lib.SliceRun
set_option linter.unusedVariables false
set_option linter.unusedSimpArgs false
set_option linter.unusedVariables false
set_option linter.unusedSimpArgs false
namespace Go.Ax
open Go

/-- What follows a quiet operation. -/
def kPut (s : S) (d : Nat) (K : S → Prop) (t : T) : Prop := (s.isVar d = true → t.target = none) ∧ K (s.put d t)
def aOp (P : Program) (o : Oper) (s : S) (K : S → Prop) : Prop :=
  match o.dst with
  | some d => d < s.n ∧ (if loud P o.type o.op s d = true then eOp P o.type o.op d s K else qOp P o.op (ev s) (kPut s d K))
  | none => match o.op with
    | .store t a x => eStore P t a x s K
    | _ => False

section
variable {P : Program} {w0 w : World} {ext I0 : Nat → Prop} {s : S} {a : Act} {o : Oper} {next : Act → World → Prop} {Q : Exit → Act → World → Prop}

theorem Ok.onward {I I2 : Nat → Prop} {ts : Array Value} {s' : S} (h1 : ∀ b, I0 b → I b) (h2 : ∀ b, I b → I0 b ∨ Mine w0 ext b) (k1 : ∀ b, I b → I2 b) (k2 : ∀ b, I2 b → I b ∨ Mine w0 ext b) (inv : Inv w0 ext I2 s' ts w) : Ok w0 ext I0 s' ⟨ts, []⟩ w :=
  ⟨rfl, I2, fun b e => k1 b (h1 b e), fun b e => (k2 b e).elim (h2 b) .inr, inv⟩

theorem callFrz_wp {I : Nat → Prop} {ts : Array Value} {ds : List Deferred} (inv : Inv w0 ext I s ts w) {c : Call} {f : Operand} {g : FuncId} {as as' : List Arg} {s' : S} {K : S → Prop} {d : Nat} (hop : o.op = .call c) (hc : c.callee = .value f) (hf : (ev s f).t = .one (.v (.func (.func g) #[] #[])))
    (ha : args? (ev s) c.args.toList = some as) (hz : frza s c.args.toList = some (s', as')) (he : as' = as) (h : aCall P g as (kFrz s s' d K) (xCall P g c.args.toList d s K)) (hf' : (ev s f).t = .one (.v (.func (.func g) #[] #[])))
    (hlt : d < s.n) (hd : o.dst = some d) (k : Next w0 ext I d ts ds K next) : o.wp P ⟨ts, ds⟩ w next Q := by
  rcases h with ⟨cs, h1, h2⟩ | h
  rotate_left
  · exact xCall_wp inv hop hc hf' h hlt hd k
  unfold kFrz at h2
  subst he
  by_cases hfl : cs.all Comp.flat = true
  · rw [if_pos hfl] at h2
    obtain ⟨k1, k2⟩ := args_sound (ds := ds) inv ha
    have hown : ∀ b, Owned s w ts b → b < w.heap.size := fun b ⟨x, i, e⟩ => (inv.away x i b e).2.1
    refine call_wp hop hc (ev_v (ds := ds) inv hf) (h1 w _ _ (fun b e => e.elim (inv.Ilt b) (hown b)) k1) (fun v w' hcame => ?_)
    obtain ⟨I2, g1, g2, g3⟩ := came_put inv (fun b e => e) (fun _ e => .inl e) hcame (.inl hfl) hlt
    rw [hd, Act.put_some]
    exact k I2 v w' _ h2 g1 g2 g3
  · rw [if_neg hfl] at h2
    obtain ⟨I1, a1, a2, a3, a4, a5, a6⟩ := frza_sound (ds := ds) inv hz
    refine call_wp hop hc (ev_v (ds := ds) inv hf) (h1 w I1 _ a3.Ilt a4) (fun v w' hcame => ?_)
    obtain ⟨I2, g1, g2, g3⟩ := came_put a3 (fun b e => .inl e) (fun _ e => e) hcame (.inr fun _ e => e) (by rw [a5]; exact hlt)
    rw [hd, Act.put_some]
    exact k I2 v w' _ h2 (fun b e => g1 b (a1 b e)) (fun b e => (g2 b e).elim (a2 b) .inr) g3

theorem eOp_wp {I : Nat → Prop} {ts : Array Value} {ds : List Deferred} (inv : Inv w0 ext I s ts w) {d : Nat} {K : S → Prop} (h : eOp P o.type o.op d s K) (hlt : d < s.n) (hd : o.dst = some d) (k : Next w0 ext I d ts ds K next) : o.wp P ⟨ts, ds⟩ w next Q := by
  obtain ⟨dst, op, type, pos, after, guard⟩ := o
  cases op <;> simp only [eOp] at h <;> try exact h.elim
  case move x => exact eMove_wp inv h hlt rfl hd k
  case assign x => exact eMove_wp inv h hlt rfl hd k
  case alloc e =>
    split at h <;> try exact h.elim
    rename_i cells hz
    exact alloc_wp inv hz h hlt rfl hd k
  case box e x =>
    split at h <;> try exact h.elim
    rename_i s' g es hf
    exact box_wp inv hf h hlt rfl hd k
  case build t parts => exact eBuild_wp inv h hlt rfl hd k
  case buildSlice t len parts => exact eBuildSlice_wp inv h hlt rfl hd k
  case makeSlice t l c => exact eMake_wp inv h hlt rfl hd k
  case extract x j =>
    split at h <;> try exact h.elim
    rename_i t cs e1
    obtain ⟨hv, htn, h⟩ := h
    split at h <;> try exact h.elim
    rename_i sz rows hj
    have hg : s.get t = .tup cs := by
      have e1 : opd s (.tmp t) = .tup cs := e1
      unfold opd at e1
      simp only [] at e1
      split at e1
      · split at e1 <;> cases e1
      · split at e1 <;> cases e1
      · exact e1
    exact extract_wp inv hg hv hj h hlt htn rfl hd k
  case call c =>
    obtain ⟨callee, args, argTypes⟩ := c
    simp only at h
    split at h <;> try exact h.elim
    · split at h <;> try exact h.elim
      rename_i x y t t2 hx ht
      exact eAppend_wp inv h hlt rfl rfl hx ht hd k
    · rename_i f
      split at h <;> try exact h.elim
      rename_i g first captured e1
      obtain ⟨rfl, rfl, h⟩ := h
      split at h
      · rename_i as e2
        split at h <;> try exact h.elim
        rename_i s' as' e3
        obtain ⟨he, h⟩ := h
        exact callFrz_wp inv rfl rfl e1 e2 e3 he h e1 hlt hd k
      · exact xCall_wp (c := ⟨.value f, args, argTypes⟩) inv rfl rfl e1 h hlt hd k

/-- AN OPERATION'S STEP. -/
theorem aOp_wp {K : S → Prop} (hok : Ok w0 ext I0 s a w) (h : aOp P o s K) (k : ∀ s' a' w', K s' → Ok w0 ext I0 s' a' w' → next a' w') : o.wp P a w next Q := by
  obtain ⟨hd0, I, h1, h2, inv⟩ := hok
  obtain ⟨ts, ds⟩ := a
  simp only at hd0 inv
  subst hd0
  unfold aOp at h
  split at h
  · rename_i d hd
    obtain ⟨hlt, h⟩ := h
    split at h
    · exact eOp_wp inv h hlt hd (fun I2 v w' s' hK k1 k2 inv' => k s' _ w' hK (Ok.onward h1 h2 k1 k2 inv'))
    · obtain ⟨r, h3, h4, h5⟩ := qOp_one h
      exact quiet_wp inv h3 hd hlt h4 (fun I2 v w' k1 k2 inv' => k _ _ w' h5 (Ok.onward h1 h2 k1 k2 inv'))
  · rename_i hd
    obtain ⟨dst, op, type, pos, after, guard⟩ := o
    cases op <;> simp only at h <;> try exact h.elim
    exact eStore_wp inv h rfl hd (fun I2 w' s' hK k1 k2 inv' => k s' _ w' hK (Ok.onward h1 h2 k1 k2 inv'))

/-- Slots that an operation doesn't turn. -/
theorem wp_kept (h : o.wp P a w (fun a' w' => (∀ p, o.dst ≠ some p → val a'.tmps p = val a.tmps p) → next a' w') Q) : o.wp P a w next Q := by
  have hp : ∀ (b : Act) (v : Value), b.tmps = a.tmps → ∀ p, o.dst ≠ some p → val (b.put o.dst v).tmps p = val a.tmps p := fun b v hb p hp => by
    cases hd : o.dst with
    | none => simp [Act.put, hb]
    | some d =>
      have hne : d ≠ p := fun e => hp (by rw [hd, e])
      simp only [Act.put, hb, val]
      rw [Array.getD_eq_getD_getElem?, Array.getD_eq_getD_getElem?, Array.getElem?_setIfInBounds_ne hne]
  unfold Oper.wp at *
  generalize (execOp a.eval o).run P w = r at *
  cases r with
  | ok n w' =>
    cases n with
    | enter f args =>
      simp only [Oper.upon] at h ⊢
      refine Calls.mono h fun e w'' he => ?_
      cases e with
      | returned v => exact he (hp a v rfl)
      | panicked chain => exact he
      | outgrown => exact he
    | row row args =>
      simp only [Oper.upon] at h ⊢
      exact Rows.mono h fun v w'' he => he (hp a v rfl)
    | value v => exact h (hp a v rfl)
    | skip => exact h (hp a _ rfl)
    | defer d => exact h (hp _ _ rfl)
    | _ => exact h
  | halt hh w' => cases hh <;> exact h

/-- What holds of a frame some of whose slots are never turned. -/
def OkF (F : Nat → Option Value) (w0 : World) (ext I0 : Nat → Prop) (s : S) (a : Act) (w : World) : Prop := Ok w0 ext I0 s a w ∧ ∀ p u, F p = some u → val a.tmps p = u
def clearO (F : Nat → Option Value) (o : Oper) : Prop := ∀ d, o.dst = some d → F d = none
theorem OkF.ok {F : Nat → Option Value} (h : OkF F w0 ext I0 s a w) : Ok w0 ext I0 s a w := h.1
theorem OkF.map {F : Nat → Option Value} {s' : S} (h : OkF F w0 ext I0 s a w) (hs : Ok w0 ext I0 s a w → Ok w0 ext I0 s' a w) : OkF F w0 ext I0 s' a w := ⟨hs h.1, h.2⟩
theorem aOpF_wp {F : Nat → Option Value} {K : S → Prop} (hF : clearO F o) (hok : OkF F w0 ext I0 s a w) (h : aOp P o s K) (k : ∀ s' a' w', K s' → OkF F w0 ext I0 s' a' w' → next a' w') : o.wp P a w next Q :=
  wp_kept (aOp_wp hok.1 h fun s' a' w' hK hok' hkept => k s' a' w' hK ⟨hok', fun p u hp => (hkept p fun e => by rw [hF p e] at hp; cases hp).trans (hok.2 p u hp)⟩)

/-- An operation that isn't wanted. -/
def skipS (o : Oper) (s : S) : S :=
  match o.dst with
  | some d => s.put d (.tup [])
  | none => s
theorem skip_ok (hok : Ok w0 ext I0 s a w) (hlt : ∀ d, o.dst = some d → d < s.n) : Ok w0 ext I0 (skipS o s) (a.put o.dst undef) w := by
  obtain ⟨hd0, I, h1, h2, inv⟩ := hok
  obtain ⟨ts, ds⟩ := a
  simp only at hd0 inv
  subst hd0
  unfold skipS
  cases hd : o.dst with
  | none => exact ⟨rfl, I, h1, h2, inv⟩
  | some d => exact ⟨rfl, I, h1, h2, inv.put_plain (hlt d hd) ⟨#[], rfl, rfl, fun j c h => by cases h⟩ (fun _ => rfl) rfl⟩

theorem skipF_ok {F : Nat → Option Value} (hF : clearO F o) (hok : OkF F w0 ext I0 s a w) (hlt : ∀ d, o.dst = some d → d < s.n) : OkF F w0 ext I0 (skipS o s) (a.put o.dst undef) w := by
  refine ⟨skip_ok hok.1 hlt, fun p u hp => ?_⟩
  cases hd : o.dst with
  | none => simpa [Act.put] using hok.2 p u hp
  | some d =>
    have hne : d ≠ p := fun e => by rw [← e, hF d hd] at hp; cases hp
    rw [← hok.2 p u hp]
    simp only [Act.put, val]
    rw [Array.getD_eq_getD_getElem?, Array.getD_eq_getD_getElem?, Array.getElem?_setIfInBounds_ne hne]
/-- Is the guard's value the one that is wanted? What wasn't wanted itself has no value. -/
def guardOf (ops : Array Oper) (s : S) (j : Nat) (b : Bool) : Option Bool :=
  match (ops[j]?).bind (·.dst) with
  | some g => match s.get g with
    | .one (.v (.bool β)) => some β
    | .tup [] => some (!b)
    | _ => none
  | none => none
/-- A guard that is decided is told so. -/
def S.known (s : S) (ops : Array Oper) (j : Nat) (b : Bool) : S :=
  match (ops[j]?).bind (·.dst) with
  | some g => match s.get g with
    | .one (.v (.bool _)) => { s with ts := setv s.ts g (.one (.v (.bool b))) }
    | _ => s
  | none => s
theorem setv_self {l : List (Nat × T)} {g : Nat} {t : T} (h : ∀ u, look l g = some u → u = t) : setv l g t = l := by
  induction l with
  | nil => rfl
  | cons p l ih =>
    obtain ⟨k, v⟩ := p
    by_cases hk : k = g
    · subst hk
      have := h v (by simp [look])
      simp [setv, this]
    · simp only [setv, if_neg hk]
      rw [ih (fun u hu => h u (by simp [look, hk, hu]))]
theorem S.known_self {s : S} {ops : Array Oper} {j : Nat} {b b' : Bool} (h : guardOf ops s j b' = some b) : s.known ops j b = s := by
  unfold guardOf at h
  unfold S.known
  split at h <;> try cases h
  rename_i g hg
  split at h <;> try cases h
  · rename_i e
    rw [e]
    simp only
    rw [setv_self]
    intro u hu
    unfold S.get at e
    rw [hu] at e
    exact e
  · rename_i e
    rw [e]
theorem guard_yields {ops : Array Oper} (hok : Ok w0 ext I0 s a w) {j : Nat} {β b : Bool} (h : guardOf ops s j b = some β) : yielded ops a.tmps j = some b ↔ β = b := by
  obtain ⟨hd0, I, h1, h2, inv⟩ := hok
  unfold guardOf at h
  unfold yielded
  cases hg : (ops[j]?).bind (·.dst) with
  | none => rw [hg] at h; cases h
  | some g =>
    rw [hg] at h
    simp only at h
    split at h <;> try cases h
    · rename_i e
      have hr := inv.rep g
      rw [e] at hr
      have hv : val a.tmps g = .bool β := (RepD.v_inv hr).1
      unfold val at hv
      rw [Array.getD_eq_getD_getElem?] at hv
      cases ht : a.tmps[g]? with
      | none => rw [ht] at hv; cases hv
      | some u => rw [ht] at hv; simp only [Option.getD_some] at hv; subst hv; simp [ht]
    · rename_i e
      have hr := inv.rep g
      rw [e] at hr
      obtain ⟨vs, hv, h3, _⟩ := hr
      have h4 : vs = #[] := Array.eq_empty_of_size_eq_zero h3
      subst h4
      unfold val at hv
      rw [Array.getD_eq_getD_getElem?] at hv
      cases ht : a.tmps[g]? with
      | none => simp [ht]
      | some u =>
        rw [ht] at hv
        simp only [Option.getD_some] at hv
        subst hv
        simp [ht]

/-- Is a list owned, other than one that is still nil? -/
def ownAny : List Leaf → Bool
  | [] => false
  | .own (_ + 1) _ :: _ => true
  | _ :: r => ownAny r
/-- Ahead of a load of a whole struct: its lists are data from now on. -/
def frzLoad (P : Program) (t : TypeId) (a : Operand) (s : S) : S :=
  match (ev s a).t, (ev s a).c with
  | .bref y off, .box cells => match P.underlying t with
    | some (.array _ _) => s.upd y (.box (frzLs off (P.cellsOf t) cells))
    | _ => if isAggT P t = true then (match ownAny ((cells.drop off).take (P.cellsOf t)) with
      | false => s
      | true => s.upd y (.box (frzLs off (P.cellsOf t) cells))) else s
  | _, _ => s
/-- A box's cells, all of them data. -/
def capDs : List Leaf → Option (List D)
  | [] => some []
  | .d d :: r => (capDs r).map (d :: ·)
  | .own _ rows :: r => (capDs r).map (.l rows :: ·)
  | .hole :: _ => Option.none
theorem capDs_flex {ls : List Leaf} {ds : List D} (h : capDs ls = some ds) : FlexB ls (ds.map Leaf.d) := by
  induction ls generalizing ds with
  | nil => simp only [capDs, Option.some.injEq] at h; subst h; exact .nil
  | cons l r ih =>
    cases l with
    | hole => cases h
    | d d =>
      obtain ⟨ds', h1, rfl⟩ := Option.map_eq_some_iff.1 h
      exact .cons (.refl _) (ih h1)
    | own sz rows =>
      obtain ⟨ds', h1, rfl⟩ := Option.map_eq_some_iff.1 h
      exact .cons (.frz _ _) (ih h1)
/-- Ahead of a capture: what is captured is fixed from now on. -/
def frzCap (x : Operand) (s : S) : S :=
  match (ev s x).t, (ev s x).c with
  | .bref y 0, .box cells => match capDs cells with
    | some ds => s.upd y (.el ds)
    | none => s
  | _, _ => s
def frzCaps : List Operand → S → S
  | [], s => s
  | x :: r, s => frzCaps r (frzCap x s)
def preS (P : Program) (o : Oper) (s : S) : S :=
  match o.op with
  | .load t a => frzLoad P t a s
  | .makeFunc _ _ caps => frzCaps caps.toList s
  | _ => s
theorem upd_flex {s : S} {y : Nat} {t u : T} (hv : look s.vs y = some t) (h : FlexT t u) : Flex s (s.upd y u) := by
  obtain ⟨n, ts, vs⟩ := s
  exact .mk (FlexV.upd hv h)
theorem frzCap_ok (x : Operand) (hok : Ok w0 ext I0 s a w) : Ok w0 ext I0 (frzCap x s) a w := by
  unfold frzCap
  split
  · rename_i y cells e1 e2
    split
    · rename_i ds hds
      obtain ⟨hd, I, h1, h2, inv⟩ := id hok
      have e1' : opd s x = .bref y 0 := e1
      have hc : (ev s x).c = s.get y := by
        show (match (opd s x).target with | some y => s.get y | none => T.none) = _
        rw [e1']; rfl
      rw [hc] at e2
      have hv : s.isVar y = true := opd_target inv x (by rw [e1']; rfl)
      have hl := (inv.vtgt y hv).1
      have hl2 : look s.vs y = some (.box cells) := by
        obtain ⟨u, hu⟩ := Option.isSome_iff_exists.1 (show (look s.vs y).isSome = true from hv)
        simp only [S.get, hl, hu, Option.getD_none, Option.getD_some] at e2
        rw [hu, e2]
      exact hok.flex (upd_flex hl2 (.fbox (capDs_flex hds)))
    · exact hok
  · exact hok
theorem frzCaps_ok : ∀ (xs : List Operand) {s : S}, Ok w0 ext I0 s a w → Ok w0 ext I0 (frzCaps xs s) a w
  | [], _, h => h
  | x :: r, s, h => frzCaps_ok r (frzCap_ok x h)
theorem preS_ok (o : Oper) (hok : Ok w0 ext I0 s a w) : Ok w0 ext I0 (preS P o s) a w := by
  unfold preS
  split
  · rename_i t x _
    unfold frzLoad
    split
    · rename_i y off cells e1 e2
      have hup : Ok w0 ext I0 (s.upd y (.box (frzLs off (P.cellsOf t) cells))) a w := by
        obtain ⟨hd, I, h1, h2, inv⟩ := id hok
        have e1' : opd s x = .bref y off := e1
        have hc : (ev s x).c = s.get y := by
          show (match (opd s x).target with | some y => s.get y | none => T.none) = _
          rw [e1']; rfl
        rw [hc] at e2
        have hv : s.isVar y = true := opd_target inv x (by rw [e1']; rfl)
        have hl := (inv.vtgt y hv).1
        have hl2 : look s.vs y = some (.box cells) := by
          obtain ⟨u, hu⟩ := Option.isSome_iff_exists.1 (show (look s.vs y).isSome = true from hv)
          simp only [S.get, hl, hu, Option.getD_none, Option.getD_some] at e2
          rw [hu, e2]
        exact hok.flex (upd_flex hl2 (.box (frzLs_flex _ _ _)))
      split
      · exact hup
      · split
        · split
          · exact hok
          · exact hup
        · exact hok
    · exact hok
  · exact frzCaps_ok _ hok
  · exact hok
/-- Ahead of a region that draws its order: the same for all of its loads. -/
def preD (P : Program) : List Oper → S → S
  | [], s => s
  | o :: r, s => preD P r (match o.op with
    | .load t (.tmp y) => frzLoad P t (.tmp y) s
    | _ => s)
theorem preD_ok : ∀ (l : List Oper) {s : S}, Ok w0 ext I0 s a w → Ok w0 ext I0 (preD P l s) a w
  | [], _, h => h
  | o :: r, s, h => preD_ok r (by
    split
    · rename_i t y e
      have := preS_ok (P := P) ⟨none, .load t (.tmp y), 0, "", #[], none⟩ h
      exact this
    · exact h)
/-- Is a list nil? An empty one may be so, or not. -/
def nilTest (o : Oper) : Option (Nat × TypeId × Operand) :=
  match o.dst, o.op with
  | some d, .binOp .eql t x (.const (.slice Option.none 0 0)) _ => some (d, t, x)
  | _, _ => none
def isSl (P : Program) (t : TypeId) : Bool :=
  match P.underlying t with
  | some (.slice _) => true
  | _ => false
def kNil (s : S) (d : Nat) (rows : List (List D)) (K : S → Prop) : Prop := K (s.put d (.one (.v (.bool false)))) ∧ (rows = [] → K (s.put d (.one (.v (.bool true)))))
def nilOp (P : Program) (d : Nat) (t : TypeId) (x : Operand) (s : S) (K : S → Prop) : Prop :=
  d < s.n ∧ isSl P t = true ∧ match (ev s x).lst with
  | some rows => kNil s d rows K
  | none => False
theorem nilOp_wp {d : Nat} {t : TypeId} {x : Operand} {K : S → Prop} (ho : nilTest o = some (d, t, x)) (hok : Ok w0 ext I0 s a w) (h : nilOp P d t x s K) (k : ∀ s' a' w', K s' → Ok w0 ext I0 s' a' w' → next a' w') : o.wp P a w next Q := by
  obtain ⟨hd0, I, h1, h2, inv⟩ := hok
  obtain ⟨ts, ds⟩ := a
  simp only at hd0 inv
  subst hd0
  obtain ⟨dst, op, type, pos, after, guard⟩ := o
  unfold nilTest at ho
  split at ho <;> try cases ho
  rename_i e1 e2
  simp only at e1 e2
  subst e1 e2
  obtain ⟨hlt, hsl, h⟩ := h
  split at h <;> try exact h.elim
  rename_i rows e
  obtain ⟨av, c, hv, hrep⟩ := lst_sound (ds := []) inv e
  obtain ⟨e0, he0⟩ : ∃ e, P.underlying t = some (.slice e) := by
    unfold isSl at hsl
    split at hsl
    · exact ⟨_, by assumption⟩
    · cases hsl
  have hrun : (execOp (Act.eval ⟨ts, []⟩) ⟨some d, .binOp .eql t x (.const (.slice none 0 0)) ‹TypeId›, type, pos, after, guard⟩).run P w = .ok (.value (.bool av.isNone)) w := by
    simp only [execOp, Sem.run_bind]
    rw [hv]
    show ((binOp .eql t (.slice av rows.length c) (.slice none 0 0)).run P w).andThen _ = _
    rw [Lib.run_eql_slice_nil w t e0 av rows.length c 0 0 he0]
    rfl
  refine wp_value hrun ?_
  rw [Act.put_some]
  have put : ∀ β : Bool, Ok w0 ext I0 (s.put d (.one (.v (.bool β)))) ⟨ts.setIfInBounds d (.bool β), []⟩ w := fun β =>
    ⟨rfl, I, h1, h2, inv.put_plain hlt (RepD.v _ rfl) (fun _ => rfl) rfl⟩
  cases av with
  | some av => exact k _ _ _ h.1 (put false)
  | none =>
    have hr : rows = [] := by
      have hrep := hv ▸ hrep
      cases hrep with
      | l rows sz a cap vals hl hc hm ha hv =>
        by_cases hn : rows = []
        · exact hn
        · obtain ⟨b, o, h, _⟩ := ha hn
          cases h
    exact k _ _ _ (h.2 hr) (put true)
theorem nilOpF_wp {F : Nat → Option Value} {d : Nat} {t : TypeId} {x : Operand} {K : S → Prop} (hF : clearO F o) (ho : nilTest o = some (d, t, x)) (hok : OkF F w0 ext I0 s a w) (h : nilOp P d t x s K) (k : ∀ s' a' w', K s' → OkF F w0 ext I0 s' a' w' → next a' w') : o.wp P a w next Q :=
  wp_kept (nilOp_wp ho hok.1 h fun s' a' w' hK hok' hkept => k s' a' w' hK ⟨hok', fun p u hp => (hkept p fun e => by rw [hF p e] at hp; cases hp).trans (hok.2 p u hp)⟩)
/-- A pointer to a variable goes to another slot: the variable is that slot's from now on. -/
def boxMove (o : Oper) (s : S) : Option (Nat × Nat × List Leaf) :=
  match o.dst, o.op with
  | some d, .assign x => match (ev s x).t, (ev s x).c with
    | .bref y 0, .box cells => some (d, y, cells)
    | _, _ => none
  | _, _ => none
def kBox (d y : Nat) (cells : List Leaf) (s : S) (K : S → Prop) : Prop := d < s.n ∧ d ≠ y ∧ K ((s.upd y .none).put d (.box cells))
theorem boxMove_wp {d y : Nat} {cells : List Leaf} {K : S → Prop} (ho : boxMove o s = some (d, y, cells)) (hok : Ok w0 ext I0 s a w) (h : kBox d y cells s K) (k : ∀ s' a' w', K s' → Ok w0 ext I0 s' a' w' → next a' w') : o.wp P a w next Q := by
  obtain ⟨hd0, I, h1, h2, inv⟩ := hok
  obtain ⟨ts, ds⟩ := a
  simp only at hd0 inv
  subst hd0
  obtain ⟨dst, op, type, pos, after, guard⟩ := o
  unfold boxMove at ho
  split at ho <;> try cases ho
  rename_i x e1 e2
  simp only at e1 e2
  subst e1 e2
  split at ho <;> try cases ho
  rename_i e1 e2
  obtain ⟨hlt, hne, hK⟩ := h
  have et : (ev s x).t = opd s x := rfl
  have hr := opd_sound (ds := []) inv x
  rw [et] at e1
  rw [e1] at hr
  obtain ⟨k1, k2⟩ := ev_c inv x (y := y) (by rw [et, e1]; rfl)
  rw [e2] at k1 k2
  have hv : s.isVar y = true := opd_target inv x (by rw [e1]; rfl)
  obtain ⟨b, r1, r2⟩ := hr
  have hval : Act.eval ⟨ts, []⟩ x = val ts y := r2.trans r1.symm
  have hrun : (execOp (Act.eval ⟨ts, []⟩) ⟨some d, .assign x, type, pos, after, guard⟩).run P w = .ok (.value (val ts y)) w := by rw [← hval]; rfl
  refine wp_value hrun ?_
  rw [Act.put_some]
  have inv1 := inv.lose hv
  have hget := S.get_upd s y .none hv (inv.vtgt y hv).1
  have hs : ∀ i b, (T.box cells).blocks w (val ts y) i = some b → (s.get y).blocks w (val ts y) i = some b := fun i b e => by rw [← k1]; exact e
  refine k _ _ _ hK ⟨rfl, I, h1, h2, inv1.put hlt (RepV.slots (fun _ e => by cases e) k2) (fun i b e => ?_) (fun i j b e1 e2 => (inv.inj y i y j b (hs i b e1) (hs j b e2)).2) (fun _ e => by cases e) (fun _ => rfl)⟩
  obtain ⟨a1, a2, a3⟩ := inv.away y i b (hs i b e)
  refine ⟨a1, a2, a3, fun z j hz e3 => ?_⟩
  rw [hget] at e3
  split at e3
  · simp [T.blocks] at e3
  · rename_i hyz
    exact hyz (inv.inj y i z j b (hs i b e) e3).1
theorem boxMoveF_wp {F : Nat → Option Value} {d y : Nat} {cells : List Leaf} {K : S → Prop} (hF : clearO F o) (ho : boxMove o s = some (d, y, cells)) (hok : OkF F w0 ext I0 s a w) (h : kBox d y cells s K) (k : ∀ s' a' w', K s' → OkF F w0 ext I0 s' a' w' → next a' w') : o.wp P a w next Q :=
  wp_kept (boxMove_wp ho hok.1 h fun s' a' w' hK hok' hkept => k s' a' w' hK ⟨hok', fun p u hp => (hkept p fun e => by rw [hF p e] at hp; cases hp).trans (hok.2 p u hp)⟩)
/-- Operations in their written order. -/
def aOps (P : Program) (ops : Array Oper) : List Oper → S → (S → Prop) → Prop
  | [], s, K => K s
  | o :: r, s, K => match o.guard with
    | none => match nilTest o with
      | some (d, t, x) => nilOp P d t x s fun s' => aOps P ops r s' K
      | none => match boxMove o s with
        | some (d, y, cells) => kBox d y cells s fun s' => aOps P ops r s' K
        | none => aOp P o (preS P o s) fun s' => aOps P ops r s' K
    | some (j, b) => match guardOf ops s j b with
      | some β => (β = b → aOp P o (preS P o (s.known ops j b)) fun s' => aOps P ops r s' K) ∧ (β = !b → (∀ d, o.dst = some d → d < s.n) ∧ aOps P ops r (skipS o (s.known ops j (!b))) K)
      | none => False

/-- What follows operations. -/
def kOps (P : Program) (ops : Array Oper) (r : List Oper) (K : S → Prop) (s : S) : Prop := aOps P ops r s K
theorem aOps_nil (P : Program) (ops : Array Oper) (s : S) (K : S → Prop) : aOps P ops [] s K = K s := rfl
theorem aOps_cons (P : Program) (ops : Array Oper) (o : Oper) (r : List Oper) (s : S) (K : S → Prop) : aOps P ops (o :: r) s K = match o.guard with
    | none => match nilTest o with
      | some (d, t, x) => nilOp P d t x s (kOps P ops r K)
      | none => match boxMove o s with
        | some (d, y, cells) => kBox d y cells s (kOps P ops r K)
        | none => aOp P o (preS P o s) (kOps P ops r K)
    | some (j, b) => match guardOf ops s j b with
      | some β => (β = b → aOp P o (preS P o (s.known ops j b)) (kOps P ops r K)) ∧ (β = !b → (∀ d, o.dst = some d → d < s.n) ∧ aOps P ops r (skipS o (s.known ops j (!b))) K)
      | none => False := rfl
theorem kOps_at (P : Program) (ops : Array Oper) (r : List Oper) (K : S → Prop) (s : S) : kOps P ops r K s = aOps P ops r s K := rfl

theorem aOps_wp {F : Nat → Option Value} {ops : Array Oper} (hF : ∀ o ∈ ops, clearO F o) {K : S → Prop} (kQ : ∀ s' a' w', K s' → OkF F w0 ext I0 s' a' w' → Q .normal a' w') : ∀ (l : List Oper) (k : Nat) (s : S) (a : Act) (w : World), (∀ j o, l[j]? = some o → ops[k + j]? = some o) → OkF F w0 ext I0 s a w → aOps P ops l s K →
    wpOps P ops Q (List.range' k l.length) a w := by
  intro l
  induction l with
  | nil => intro k s a w _ hok h; exact kQ s a w h hok
  | cons o l ih =>
    intro k s a w hl hok h
    have ho : ops[k]? = some o := by simpa using hl 0 o rfl
    have hFo : clearO F o := hF o (Array.mem_of_getElem? ho)
    have hl' : ∀ j o', l[j]? = some o' → ops[k + 1 + j]? = some o' := fun j o' hj => by
      have := hl (j + 1) o' (by simpa using hj)
      rwa [show k + 1 + j = k + (j + 1) by omega]
    rw [List.length_cons, List.range'_succ]
    simp only [wpOps, ho]
    have step : aOp P o (preS P o s) (fun s' => aOps P ops l s' K) → o.wp P a w (wpOps P ops Q (List.range' (k + 1) l.length)) Q := fun h =>
      aOpF_wp hFo (hok.map (preS_ok o)) h (fun s' a' w' hK hok' => ih (k + 1) s' a' w' hl' hok' hK)
    unfold aOps at h
    split at h
    · rename_i hg
      rw [if_pos (by simp [Region.wanted, hg])]
      split at h
      · rename_i d t x hnil
        exact .inl (nilOpF_wp hFo hnil hok h (fun s' a' w' hK hok' => ih (k + 1) s' a' w' hl' hok' hK))
      · split at h
        · rename_i d y cells hbm
          exact .inl (boxMoveF_wp hFo hbm hok h (fun s' a' w' hK hok' => ih (k + 1) s' a' w' hl' hok' hK))
        · exact .inl (step h)
    · rename_i j b hg
      split at h <;> try exact h.elim
      rename_i β hβ
      have hy := guard_yields hok.1 hβ
      by_cases hb : β = b
      · rw [if_pos (by simp only [Region.wanted, hg]; exact beq_iff_eq.2 (hy.2 hb))]
        have h5 := h.1 hb
        rw [S.known_self (by rw [← hb]; exact hβ)] at h5
        exact .inl (step h5)
      · rw [if_neg (by simp only [Region.wanted, hg]; exact fun e => hb (hy.1 (beq_iff_eq.1 e)))]
        have hb' : β = !b := by cases β <;> cases b <;> simp_all
        obtain ⟨h3, h4⟩ := h.2 hb'
        rw [S.known_self (by rw [← hb']; exact hβ)] at h4
        exact ih (k + 1) _ _ w hl' (skipF_ok hFo hok h3) h4

theorem region_wp {F : Nat → Option Value} {ops : Array Oper} (hF : ∀ o ∈ ops, clearO F o) {id : Nat} {K : S → Prop} (hok : OkF F w0 ext I0 s a w) (h : aOps P ops ops.toList s K) (kQ : ∀ s' a' w', K s' → OkF F w0 ext I0 s' a' w' → Q .normal a' w') : (Code.region id ops false).wp P Q a w := by
  refine wp_region ?_
  rw [List.range_eq_range', ← Array.length_toList]
  exact aOps_wp hF kQ ops.toList 0 s a w (fun j o hj => by simpa using hj) hok h

end

end Go.Ax

/- Code: what holds behind it. -/
set_option linter.unusedVariables false
set_option linter.unusedSimpArgs false
namespace Go.Ax
open Go

/-- A loop ends: an invariant with a measure. -/
def aLoop (B : (S → Prop) → S → Prop) (s : S) : Prop :=
  ∃ J : Nat → S → Prop, (∃ n s', Flex s s' ∧ J n s') ∧ ∀ n s, J n s → B (fun s' => ∃ m, m < n ∧ ∃ s'', Flex s'.shut s'' ∧ J m s'') s

/-- Where a round of a loop comes to. -/
def Round {α : Type} (st : α → S) (Inv : α → Prop) (μ : α → Nat) (n : Nat) (s' : S) : Prop := ∃ m, m < n ∧ ∃ s'', Flex s'.shut s'' ∧ ∃ a, Inv a ∧ st a = s'' ∧ μ a = m
theorem Round.fx {α : Type} {st : α → S} {Inv : α → Prop} {μ : α → Nat} {n : Nat} {s' : S} (a : α) (h : Inv a) (hm : μ a < n) (hs : Flex s'.shut (st a)) : Round st Inv μ n s' := ⟨_, hm, _, hs, a, h, rfl, rfl⟩
theorem Round.mk {α : Type} {st : α → S} {Inv : α → Prop} {μ : α → Nat} {n : Nat} {s' : S} (a : α) (h : Inv a) (hm : μ a < n) (hs : s'.shut = st a) : Round st Inv μ n s' := Round.fx a h hm (hs ▸ Flex.refl rfl)
/-- For the proof of a loop: its states told by numbers and lists. -/
theorem aLoop_fx {B : (S → Prop) → S → Prop} {α : Type} (st : α → S) (Inv : α → Prop) (μ : α → Nat) (a : α) (h0 : Inv a) {s : S} (hs : Flex s (st a))
    (step : ∀ a, Inv a → B (Round st Inv μ (μ a)) (st a)) : aLoop B s := by
  refine ⟨fun n s => ∃ a, Inv a ∧ st a = s ∧ μ a = n, ⟨_, _, hs, a, h0, rfl, rfl⟩, ?_⟩
  rintro n s ⟨b, h1, rfl, rfl⟩
  exact step b h1
theorem aLoop_of {B : (S → Prop) → S → Prop} {α : Type} (st : α → S) (Inv : α → Prop) (μ : α → Nat) (a : α) (h0 : Inv a) {s : S} (hs : s = st a)
    (step : ∀ a, Inv a → B (Round st Inv μ (μ a)) (st a)) (ht : s.ts = [] := by rfl) : aLoop B s := aLoop_fx st Inv μ a h0 (hs ▸ Flex.refl ht) step

/-- No operation turns a slot of F. -/
def clearC (F : Nat → Option Value) : Code → Prop
  | .region _ ops _ => ∀ o ∈ ops, clearO F o
  | .seq x y => clearC F x ∧ clearC F y
  | .cond _ x y => clearC F x ∧ clearC F y
  | .block _ b => clearC F b
  | .loop b => clearC F b
  | _ => True
def clearB (ps : List Nat) : Code → Bool
  | .region _ ops _ => ops.all fun o => match o.dst with | some d => notIn d ps | none => true
  | .seq x y => clearB ps x && clearB ps y
  | .cond _ x y => clearB ps x && clearB ps y
  | .block _ b => clearB ps b
  | .loop b => clearB ps b
  | _ => true
theorem clearB_spec {F : Nat → Option Value} {ps : List Nat} (hF : ∀ d, d ∉ ps → F d = none) : ∀ {c : Code}, clearB ps c = true → clearC F c
  | .region _ ops _, h => fun o ho d hd => hF d (notIn_spec (by
      have := Array.all_eq_true'.1 h o ho
      rw [hd] at this
      exact this))
  | .seq x y, h => by simp only [clearB, Bool.and_eq_true] at h; exact ⟨clearB_spec hF h.1, clearB_spec hF h.2⟩
  | .cond _ x y, h => by simp only [clearB, Bool.and_eq_true] at h; exact ⟨clearB_spec hF h.1, clearB_spec hF h.2⟩
  | .block _ b, h => clearB_spec (c := b) hF h
  | .loop b, h => clearB_spec (c := b) hF h
  | .skip, _ => trivial
  | .exit _, _ => trivial
  | .ret, _ => trivial
  | .label _, _ => trivial
  | .rangeFunc .., _ => trivial
  | .scope _, _ => trivial
  | .goto _, _ => trivial
  | .refuse _, _ => trivial
theorem clearC_none : ∀ (c : Code), clearC (fun _ => none) c
  | .region _ ops _ => fun o ho d hd => rfl
  | .seq x y => ⟨clearC_none x, clearC_none y⟩
  | .cond _ x y => ⟨clearC_none x, clearC_none y⟩
  | .block _ b => clearC_none b
  | .loop b => clearC_none b
  | .skip => trivial
  | .exit _ => trivial
  | .ret => trivial
  | .label _ => trivial
  | .rangeFunc .. => trivial
  | .scope _ => trivial
  | .goto _ => trivial
  | .refuse _ => trivial
/-- A region that draws its order: told elsewhere (Draw). -/
def drawOf (P : Program) (ops : Array Oper) (D : S → (S → Prop) → Prop) : Prop :=
  ∀ (F : Nat → Option Value) (w0 : World) (ext I0 : Nat → Prop) (s : S) (a : Act) (w : World) (Q : Exit → Act → World → Prop) (K : S → Prop) (id : Nat), (∀ o ∈ ops, clearO F o) → OkF F w0 ext I0 s a w → D s K → (∀ s' a' w', K s' → OkF F w0 ext I0 s' a' w' → Q .normal a' w') → (Code.region id ops true).wp P Q a w

variable (aDraw : Program → Array Oper → S → (S → Prop) → Prop)

/-- WHAT HOLDS BEHIND CODE: Kn where it ends, E behind an exit, R behind a return. -/
def aCode (P : Program) : Code → (S → Prop) → (Nat → S → Prop) → (S → Prop) → S → Prop
  | .skip, Kn, _, _, s => Kn s
  | .region _ ops draw, Kn, _, _, s => match draw with
    | true => aDraw P ops (preD P ops.toList s.shut) Kn
    | false => aOps P ops ops.toList s.shut Kn
  | .seq x y, Kn, E, R, s => aCode P x (fun s' => aCode P y Kn E R s') E R s
  | .cond c x y, Kn, E, R, s => match opd s c with
    | .one (.v (.bool β)) => (β = true → aCode P x Kn E R s.shut) ∧ (β = false → aCode P y Kn E R s.shut)
    | _ => False
  | .block id body, Kn, E, R, s => aCode P body Kn (fun i s' => if i = id then Kn s' else E i s') R s
  | .loop body, _, E, R, s => aLoop (fun K s' => aCode P body K E R s') s.shut
  | .exit id, _, E, _, s => E id s
  | .ret, _, _, R, s => R s
  | .label _, Kn, _, _, s => Kn s
  | _, _, _, _, _ => False

/-- What follows code. -/
def kSeq (P : Program) (y : Code) (Kn : S → Prop) (E : Nat → S → Prop) (R : S → Prop) (s : S) : Prop := aCode aDraw P y Kn E R s
def kBlock (id : Nat) (Kn : S → Prop) (E : Nat → S → Prop) (i : Nat) (s : S) : Prop := if i = id then Kn s else E i s
def kLoop (P : Program) (body : Code) (E : Nat → S → Prop) (R : S → Prop) (K : S → Prop) (s : S) : Prop := aCode aDraw P body K E R s
theorem aCode_skip (P : Program) (Kn : S → Prop) (E : Nat → S → Prop) (R : S → Prop) (s : S) : aCode aDraw P .skip Kn E R s = Kn s := rfl
theorem aCode_region (P : Program) (id : Nat) (ops : Array Oper) (Kn : S → Prop) (E : Nat → S → Prop) (R : S → Prop) (s : S) : aCode aDraw P (.region id ops false) Kn E R s = aOps P ops ops.toList s.shut Kn := rfl
theorem aCode_draw (P : Program) (id : Nat) (ops : Array Oper) (Kn : S → Prop) (E : Nat → S → Prop) (R : S → Prop) (s : S) : aCode aDraw P (.region id ops true) Kn E R s = aDraw P ops (preD P ops.toList s.shut) Kn := rfl
theorem aCode_seq (P : Program) (x y : Code) (Kn : S → Prop) (E : Nat → S → Prop) (R : S → Prop) (s : S) : aCode aDraw P (.seq x y) Kn E R s = aCode aDraw P x (kSeq aDraw P y Kn E R) E R s := rfl
theorem aCode_cond (P : Program) (c : Operand) (x y : Code) (Kn : S → Prop) (E : Nat → S → Prop) (R : S → Prop) (s : S) : aCode aDraw P (.cond c x y) Kn E R s = match opd s c with
    | .one (.v (.bool β)) => (β = true → aCode aDraw P x Kn E R s.shut) ∧ (β = false → aCode aDraw P y Kn E R s.shut)
    | _ => False := rfl
theorem aCode_block (P : Program) (id : Nat) (body : Code) (Kn : S → Prop) (E : Nat → S → Prop) (R : S → Prop) (s : S) : aCode aDraw P (.block id body) Kn E R s = aCode aDraw P body Kn (kBlock id Kn E) R s := rfl
theorem aCode_loop (P : Program) (body : Code) (Kn : S → Prop) (E : Nat → S → Prop) (R : S → Prop) (s : S) : aCode aDraw P (.loop body) Kn E R s = aLoop (kLoop aDraw P body E R) s.shut := rfl
theorem aCode_exit (P : Program) (id : Nat) (Kn : S → Prop) (E : Nat → S → Prop) (R : S → Prop) (s : S) : aCode aDraw P (.exit id) Kn E R s = E id s := rfl
theorem aCode_ret (P : Program) (Kn : S → Prop) (E : Nat → S → Prop) (R : S → Prop) (s : S) : aCode aDraw P .ret Kn E R s = R s := rfl
theorem kSeq_at (P : Program) (y : Code) (Kn : S → Prop) (E : Nat → S → Prop) (R : S → Prop) (s : S) : kSeq aDraw P y Kn E R s = aCode aDraw P y Kn E R s := rfl
theorem kBlock_at (id : Nat) (Kn : S → Prop) (E : Nat → S → Prop) (i : Nat) (s : S) : kBlock id Kn E i s = if i = id then Kn s else E i s := rfl
theorem kLoop_at (P : Program) (body : Code) (E : Nat → S → Prop) (R : S → Prop) (K : S → Prop) (s : S) : kLoop aDraw P body E R K s = aCode aDraw P body K E R s := rfl

theorem wp_loop_abs {P : Program} {c : Code} {Q : Exit → Act → World → Prop} (J : Nat → Act → World → Prop) (round : ∀ n a w, J n a w → c.wp P (Exit.then (fun a' w' => ∃ m, m < n ∧ J m a' w') Q) a w) {n : Nat} {a : Act} {w : World} (h : J n a w) : (Code.loop c).wp P Q a w := by
  intro b k cs
  have key : ∀ n a w, J n a w → ∃ e a' w', Q e a' w' ∧ Arrives P (lone (b.at a (.code c :: .inLoop c :: k)) cs w) b k cs e a' w' := by
    intro n
    induction n using Nat.strongRecOn with
    | _ n ih =>
      intro a w hJ
      obtain ⟨e, a₁, w₁, hq, harr⟩ := round n a w hJ b (.inLoop c :: k) cs
      cases e with
      | normal =>
        obtain ⟨m, hm, hJ'⟩ := hq
        obtain ⟨e₂, a₂, w₂, hq₂, harr₂⟩ := ih m hm a₁ w₁ hJ'
        exact ⟨e₂, a₂, w₂, hq₂, .of_steps (Steps.trans harr (.one step_inLoop)) harr₂⟩
      | exit id => exact ⟨_, a₁, w₁, hq, .pass (x := .inLoop c) rfl (fun _ _ => .inl (by simp)) harr⟩
      | goto l => exact ⟨_, a₁, w₁, hq, .pass (x := .inLoop c) rfl (fun _ _ => .inl (by simp)) harr⟩
      | ret => exact ⟨_, a₁, w₁, hq, .pass (x := .inLoop c) rfl (fun _ _ => .inl (by simp)) harr⟩
      | panic ch => exact ⟨_, a₁, w₁, hq, .pass (x := .inLoop c) rfl (fun _ _ => .inl (by simp)) harr⟩
      | outgrown => exact ⟨_, a₁, w₁, hq, .pass (x := .inLoop c) rfl (fun _ _ => .inl (by simp)) harr⟩
  obtain ⟨e, a', w', hq, harr⟩ := key n a w h
  exact ⟨e, a', w', hq, .of_steps (.one step_loop) harr⟩

theorem Ok.shut {w0 w : World} {ext I0 : Nat → Prop} {s : S} {a : Act} (h : Ok w0 ext I0 s a w) : Ok w0 ext I0 s.shut a w := by
  obtain ⟨h0, I, h1, h2, inv⟩ := h
  exact ⟨h0, I, h1, h2, inv.shut⟩

theorem aCode_wp {F : Nat → Option Value} {P : Program} {w0 : World} {ext I0 : Nat → Prop} (hdraw : ∀ ops, drawOf P ops (aDraw P ops)) : ∀ (c : Code) (Kn : S → Prop) (E : Nat → S → Prop) (R : S → Prop) (s : S) (a : Act) (w : World) (Q : Exit → Act → World → Prop), clearC F c → OkF F w0 ext I0 s a w → aCode aDraw P c Kn E R s →
    (∀ s' a' w', Kn s' → OkF F w0 ext I0 s' a' w' → Q .normal a' w') → (∀ i s' a' w', E i s' → OkF F w0 ext I0 s' a' w' → Q (.exit i) a' w') → (∀ s' a' w', R s' → OkF F w0 ext I0 s' a' w' → Q .ret a' w') → c.wp P Q a w := by
  intro c
  induction c with
  | skip => intro Kn E R s a w Q hF hok h hn he hr; exact wp_skip (hn s a w h hok)
  | region id ops draw =>
    intro Kn E R s a w Q hF hok h hn he hr
    cases draw with
    | true => exact hdraw ops F w0 ext I0 (preD P ops.toList s.shut) a w Q Kn id hF (hok.map fun h => preD_ok _ h.shut) h hn
    | false => exact region_wp hF (hok.map Ok.shut) h hn
  | seq x y ihx ihy =>
    intro Kn E R s a w Q hF hok h hn he hr
    refine wp_seq (ihx _ E R s a w _ hF.1 hok h (fun s' a' w' hK hok' => ?_) (fun i s' a' w' hE hok' => he i s' a' w' hE hok') (fun s' a' w' hR hok' => hr s' a' w' hR hok'))
    exact ihy Kn E R s' a' w' Q hF.2 hok' hK hn he hr
  | cond c x y ihx ihy =>
    intro Kn E R s a w Q hF hok h hn he hr
    simp only [aCode] at h
    split at h <;> try exact h.elim
    rename_i β e
    have hc : a.eval c = .bool β := by
      obtain ⟨⟨h0, I, h1, h2, inv⟩, _⟩ := hok
      obtain ⟨ts, ds⟩ := a
      exact ev_v inv (x := c) (show (ev s c).t = _ from e)
    refine wp_cond_split hc (fun hb => ihx Kn E R s.shut a w Q hF.1 (hok.map Ok.shut) (h.1 hb) hn he hr) (fun hb => ihy Kn E R s.shut a w Q hF.2 (hok.map Ok.shut) (h.2 hb) hn he hr)
  | block id body ih =>
    intro Kn E R s a w Q hF hok h hn he hr
    refine wp_block (ih Kn _ R s a w _ hF hok h (fun s' a' w' hK hok' => hn s' a' w' hK hok') (fun i s' a' w' hE hok' => ?_) (fun s' a' w' hR hok' => hr s' a' w' hR hok'))
    simp only [Exit.inBlock]
    split
    · rename_i hi
      exact hn s' a' w' (by simpa [hi] using hE) hok'
    · rename_i hi
      exact he i s' a' w' (by simpa [hi] using hE) hok'
  | loop body ih =>
    intro Kn E R s a w Q hF hok h hn he hr
    obtain ⟨J, ⟨n0, s0, hf, hJ⟩, step⟩ := h
    refine wp_loop_abs (fun n a' w' => ∃ s', J n s' ∧ OkF F w0 ext I0 s' a' w') (fun n a' w' ⟨s', h1, h3⟩ => ?_) (n := n0) ⟨s0, hJ, hok.map fun h => h.shut.flex hf⟩
    refine ih _ E R s' a' w' _ hF h3 (step n s' h1) (fun s2 a2 w2 ⟨m, hm, s3, hf3, hK⟩ hok2 => ?_) (fun i s2 a2 w2 hE hok2 => he i s2 a2 w2 hE hok2) (fun s2 a2 w2 hR hok2 => hr s2 a2 w2 hR hok2)
    exact ⟨m, hm, s3, hK, hok2.map fun h => h.shut.flex hf3⟩
  | exit id => intro Kn E R s a w Q hF hok h hn he hr; exact wp_exit (he id s a w h hok)
  | ret => intro Kn E R s a w Q hF hok h hn he hr; exact wp_ret (hr s a w h hok)
  | label l => intro Kn E R s a w Q hF hok h hn he hr; exact wp_label (hn s a w h hok)
  | rangeFunc f params assign body ih1 ih2 => intro Kn E R s a w Q hF hok h; exact h.elim
  | scope body ih => intro Kn E R s a w Q hF hok h; exact h.elim
  | goto l => intro Kn E R s a w Q hF hok h; exact h.elim
  | refuse why => intro Kn E R s a w Q hF hok h; exact h.elim

end Go.Ax

/- Functions: from their code to their contract. -/
set_option linter.unusedVariables false
set_option linter.unusedSimpArgs false
namespace Go.Ax
open Go

def argT (as : List Arg) (x : Nat) : T :=
  match as[x]? with
  | some (true, ds) => .agg ds
  | some (false, [.p cells]) => .el cells
  | some (false, [d]) => .one d
  | _ => .none
/-- The state in which a function begins; vars: its variables. -/
def startV (as : List Arg) : List Nat → List (Nat × T)
  | [] => []
  | x :: r => (x, argT as x) :: startV as r
def start (n : Nat) (vars : List Nat) (as : List Arg) : S := { n := n, ts := [], vs := startV as vars }

theorem look_startV (as : List Arg) (vars : List Nat) (x : Nat) : look (startV as vars) x = if x ∈ vars then some (argT as x) else none := by
  induction vars with
  | nil => simp [startV, look]
  | cons y r ih =>
    simp only [startV, look, ih, List.mem_cons]
    by_cases h : y = x
    · subst h; simp
    · have : ¬ x = y := fun e => h e.symm
      simp [h, this]

def cellD : Leaf → Option D
  | .d d => some d
  | .own _ rows => some (.l rows)
  | .hole => none
def cellDs : List Leaf → Option (List D)
  | [] => some []
  | l :: r => match cellD l, cellDs r with
    | some d, some ds => some (d :: ds)
    | _, _ => none
/-- A box of data. -/
def allD : List Leaf → Option (List D)
  | [] => some []
  | .d d :: r => (allD r).map (d :: ·)
  | _ :: _ => none
theorem allD_spec {cells : List Leaf} {ds : List D} (h : allD cells = some ds) : cells = ds.map Leaf.d := by
  induction cells generalizing ds with
  | nil => simp [allD] at h; subst h; rfl
  | cons l r ih =>
    cases l with
    | d d =>
      obtain ⟨ds', h1, rfl⟩ := Option.map_eq_some_iff.1 h
      rw [ih h1]; rfl
    | own sz rows => cases h
    | hole => cases h
/-- A result. -/
def retC (P : Program) (s : S) : ResultVar → Option Comp
  | .tmp t => match s.get t with
    | .one d => some (.one (.d d))
    | .agg ds => some (.agg ds)
    | .own sz rows => some (.one (.own sz rows))
    | .box cells => (allD cells).map .bx
    | _ => none
  | .cell a ty => match s.get a, (P.underlying ty).isSome with
    | .box cells, true => if isAggT P ty = true then (if P.cellsOf ty = cells.length then (cellDs cells).map .agg else none) else match cells with
      | [l] => (cellD l).map fun d => .one (.d d)
      | _ => none
    | _, _ => none
def retCs (P : Program) (s : S) : List ResultVar → Option (List Comp)
  | [] => some []
  | r :: rs => match retC P s r, retCs P s rs with
    | some c, some cs => some (c :: cs)
    | _, _ => none
def rslot : ResultVar → Nat
  | .tmp t => t
  | .cell a _ => a

/-- A function comes to its results. -/
def Ret (P : Program) (rs : List ResultVar) (cs : List Comp) (s : S) : Prop := retCs P s rs = some cs

section
variable {P : Program} {w0 w : World} {ext I : Nat → Prop} {s : S} {ts : Array Value}

theorem cellDs_sound {cells : List Leaf} {ds : List D} (h : cellDs cells = some ds) : cells.length = ds.length ∧ ∀ (j : Nat) (d : D), ds[j]? = some d → ∃ l, cells[j]? = some l ∧ cellD l = some d := by
  induction cells generalizing ds with
  | nil => simp [cellDs] at h; subst h; simp
  | cons l r ih =>
    simp only [cellDs] at h
    split at h <;> try cases h
    rename_i d ds' h1 h2
    obtain ⟨k1, k2⟩ := ih h2
    refine ⟨by simp [k1], fun j d' hj => ?_⟩
    cases j with
    | zero => simp only [List.getElem?_cons_zero, Option.some.injEq] at hj; subst hj; exact ⟨l, rfl, h1⟩
    | succ j => simpa using k2 j d' (by simpa using hj)

/-- What a result's variable lets go. -/
def Freed (s : S) (w : World) (ts : Array Value) (slots : List Nat) (b : Nat) : Prop := ∃ x ∈ slots, (s.get x).isBox = true ∧ ∃ i, i ≠ 0 ∧ (s.get x).blocks w (val ts x) i = some b

def resV (ts : Array Value) : ResultVar → Sem Value
  | .tmp t => pure (ts.getD t undef)
  | .cell a t => do loadVar t (← asAddr (ts.getD a undef))

theorem retC_sound (inv : Inv w0 ext I s ts w) {slots : List Nat} {r : ResultVar} {c : Comp} (h : retC P s r = some c) (hr : (rslot r) ∈ slots) :
    ∃ u, (resV ts r).run P w = .ok u w ∧ RepC w (fun b => I b ∨ Freed s w ts slots b) u c ∧
      (∀ sz rows, c = .one (.own sz rows) → s.get (rslot r) = .own sz rows ∧ u = val ts (rslot r)) ∧ c ≠ .one .hole ∧ (∀ ds, c = .bx ds → s.get (rslot r) = .box (ds.map Leaf.d) ∧ u = val ts (rslot r)) := by
  have hm : ∀ b, I b → I b ∨ Freed s w ts slots b := fun _ e => .inl e
  cases r with
  | tmp t =>
    have hrep := inv.rep t
    refine ⟨val ts t, rfl, ?_⟩
    simp only [retC] at h
    split at h <;> (try (cases h; done))
    · rename_i d e
      cases h
      rw [e] at hrep
      exact ⟨RepD.mono (fun _ _ => rfl) hm hrep, (fun _ _ e => by cases e), by simp, by simp⟩
    · rename_i ds e
      cases h
      rw [e] at hrep
      obtain ⟨cs, h1, h2⟩ := hrep
      exact ⟨⟨cs, h1, h2.mono (fun _ _ => rfl) hm⟩, (fun _ _ e => by cases e), by simp, by simp⟩
    · rename_i sz rows e
      cases h
      rw [e] at hrep
      exact ⟨OwnL.mono (fun _ _ => rfl) hm (fun _ _ => rfl) hrep, (fun _ _ e2 => by cases e2; exact ⟨e, rfl⟩), by simp, by simp⟩
    · rename_i cells e
      obtain ⟨ds, h1, rfl⟩ := Option.map_eq_some_iff.1 h
      exact ⟨trivial, (fun _ _ e2 => by cases e2), by simp, fun ds' e2 => by cases e2; exact ⟨by rw [← allD_spec h1]; exact e, rfl⟩⟩
  | cell a ty =>
    have hrep := inv.rep a
    simp only [retC] at h
    split at h <;> try cases h
    rename_i cells e hu
    rw [e] at hrep
    obtain ⟨b, et, cs, h1, h2, h3, h4⟩ := hrep
    have ha : ts.getD a undef = .pointer (some ⟨b, 0, none⟩) := h1
    have hcell : ∀ (j : Nat) (v : Value), cs.toList[j]? = some v → w.cell? ⟨b, 0 + j, none⟩ = some v := by
      intro j v hj
      rw [Array.getElem?_toList] at hj
      have hlt : j < cs.size := (Array.getElem?_eq_some_iff.1 hj).1
      rw [Nat.zero_add, box_cell h2 hlt]
      simp [Array.getD_eq_getD_getElem?, hj]
    have hleaf : ∀ (j : Nat) (l : Leaf) (d : D), cells[j]? = some l → cellD l = some d → RepD w (fun b => I b ∨ Freed s w ts slots b) d (cs.getD j undef) := by
      intro j l d hl hd
      have hr4 := h4 j l hl
      cases l with
      | d x => simp only [cellD, Option.some.injEq] at hd; subst hd; exact RepD.mono (fun _ _ => rfl) hm hr4
      | own sz rows =>
        simp only [cellD, Option.some.injEq] at hd
        subst hd
        have hlt : j < cs.size := by rw [h3]; exact (List.getElem?_eq_some_iff.1 hl).1
        refine OwnL.data hr4 hm (fun b' hb' => .inr ⟨a, hr, by rw [e]; rfl, j + 1, by omega, ?_⟩)
        rw [e]
        unfold T.blocks
        dsimp only
        rw [if_neg (by omega), Nat.add_sub_cancel, hl, h1]
        simp only [ptrBlock, box_cell h2 hlt, Option.bind_some]
        exact hb'
      | hole => cases hd
    obtain ⟨l1, l2⟩ := run_loadVar' (P := P) (t := ty) hu hcell
    split at h
    · rename_i hagg
      split at h
      · rename_i hlen
        obtain ⟨ds, hds, rfl⟩ := Option.map_eq_some_iff.1 h
        obtain ⟨k1, k2⟩ := cellDs_sound hds
        refine ⟨.agg (cs.toList.take (P.cellsOf ty)).toArray, ?_, ⟨_, rfl, ?_⟩, (fun _ _ e => by cases e), by simp, by simp⟩
        · simp only [resV, Sem.run_bind, ha, asAddr, Sem.run_pure, Result.andThen_ok]
          exact l1 hagg (by simp [hlen, h3])
        · rw [hlen, ← h3]
          have : (cs.toList.take cs.size) = cs.toList := List.take_of_length_le (by simp)
          simp only [this]
          refine ⟨by rw [← k1]; simp [h3], fun j d v hj hv => ?_⟩
          obtain ⟨l, hl, hd⟩ := k2 j d hj
          have := hleaf j l d hl hd
          rw [Array.getElem?_toList] at hv
          simpa [Array.getD_eq_getD_getElem?, hv] using this
      · cases h
    · rename_i hagg
      split at h
      · rename_i l
        obtain ⟨d, hd, rfl⟩ := Option.map_eq_some_iff.1 h
        have hlt : 0 < cs.size := by rw [h3]; simp
        have hv : cs.toList[0]? = some (cs.getD 0 undef) := by
          rw [Array.getElem?_toList, Array.getElem?_eq_getElem hlt]
          simp [Array.getD_eq_getD_getElem?, Array.getElem?_eq_getElem hlt]
        refine ⟨cs.getD 0 undef, ?_, hleaf 0 l d rfl hd, (fun _ _ e => by cases e), by simp, by simp⟩
        simp only [resV, Sem.run_bind, ha, asAddr, Sem.run_pure, Result.andThen_ok]
        exact l2 (by simpa using hagg) _ hv
      · cases h

theorem box_res (inv : Inv w0 ext I s ts w) {slots : List Nat} {x : Nat} {ds : List D} (hg : s.get x = .box (ds.map Leaf.d)) :
    RepV w (fun b => I b ∨ Freed s w ts slots b) (fun _ => undef) (val ts x) (.box (ds.map Leaf.d)) ∧
    (∀ i b, (T.box (ds.map Leaf.d)).blocks w (val ts x) i = some b → ¬ (I b ∨ Freed s w ts slots b) ∧ Mine w0 ext b ∧ b < w.heap.size) ∧
    (∀ i b, (T.box (ds.map Leaf.d)).blocks w (val ts x) i = some b → i = 0) := by
  have hr := inv.rep x
  unfold RepT at hr
  rw [hg] at hr
  have h0 : ∀ i b, (T.box (ds.map Leaf.d)).blocks w (val ts x) i = some b → i = 0 := by
    intro i b hb
    unfold T.blocks at hb
    dsimp only at hb
    split at hb
    · assumption
    · split at hb
      · rename_i e1 _
        rw [List.getElem?_map] at e1
        cases hd : ds[i - 1]? with
        | none => rw [hd] at e1; cases e1
        | some d => rw [hd] at e1; cases e1
      · cases hb
  refine ⟨RepV.mono (fun _ _ => rfl) (fun _ e => .inl e) (fun _ _ _ => rfl) (fun _ _ _ e _ => by cases e) (RepV.slots (fun y hy => by cases hy) hr), fun i b hb => ?_, h0⟩
  have hb' : (s.get x).blocks w (val ts x) i = some b := by rw [hg]; exact hb
  obtain ⟨a1, a2, a3⟩ := inv.away x i b hb'
  refine ⟨fun hI => ?_, a3, a2⟩
  rcases hI with hI | ⟨x', _, _, i', hi', hb2⟩
  · exact a1 hI
  · have := (inv.inj x' i' x i b hb2 hb').2
    exact hi' (this.trans (h0 i b hb))

theorem retCs_sound (inv : Inv w0 ext I s ts w) {slots : List Nat} : ∀ {rs : List ResultVar} {cs : List Comp}, retCs P s rs = some cs → (∀ r ∈ rs, (rslot r) ∈ slots) →
    ∃ us, (rs.mapM (resV ts)).run P w = .ok us w ∧ us.length = cs.length ∧ rs.length = cs.length ∧ ∀ (j : Nat) (c : Comp), cs[j]? = some c → ∃ r u, rs[j]? = some r ∧ us[j]? = some u ∧ RepC w (fun b => I b ∨ Freed s w ts slots b) u c ∧
        (∀ sz rows, c = .one (.own sz rows) → s.get (rslot r) = .own sz rows ∧ u = val ts (rslot r)) ∧ c ≠ .one .hole ∧ (∀ ds, c = .bx ds → s.get (rslot r) = .box (ds.map Leaf.d) ∧ u = val ts (rslot r)) := by
  intro rs
  induction rs with
  | nil => intro cs h hs; simp [retCs] at h; subst h; exact ⟨[], rfl, rfl, rfl, by simp⟩
  | cons r rs ih =>
    intro cs h hs
    simp only [retCs] at h
    split at h <;> try cases h
    rename_i c cs' h1 h2
    obtain ⟨u, k1, k2⟩ := retC_sound inv h1 (hs r (by simp))
    obtain ⟨us, m1, m2, m3, m4⟩ := ih h2 (fun r hr => hs r (by simp [hr]))
    refine ⟨u :: us, ?_, by simp [m2], by simp [m3], fun j c' hj => ?_⟩
    · rw [List.mapM_cons, Sem.run_bind, k1, Result.andThen_ok, Sem.run_bind, m1, Result.andThen_ok]
      rfl
    · cases j with
      | zero => simp only [List.getElem?_cons_zero, Option.some.injEq] at hj; subst hj; exact ⟨r, u, rfl, rfl, k2⟩
      | succ j => simpa using m4 j c' (by simpa using hj)

end

/-- The end of a function. -/
theorem ret_cameX {P : Program} {w0 w : World} {ext I0 : Nat → Prop} {s : S} {a : Act} {fn : Func} {cs : List Comp} (hok : Ok w0 ext I0 s a w) (hnd : (fn.results.toList.map rslot).Nodup) (hc : Ret P fn.results.toList cs s) :
    a.defers = [] ∧ ∃ v, (results fn a.tmps).run P w = .ok v w ∧ CameX ext w0 w I0 v cs := by
  obtain ⟨h0, I, h1, h2, inv⟩ := hok
  obtain ⟨ts, ds⟩ := a
  simp only at h0 inv
  subst h0
  obtain ⟨us, m1, m2, m3, m4⟩ := retCs_sound inv (slots := fn.results.toList.map rslot) hc (fun r hr => List.mem_map.2 ⟨r, hr, rfl⟩)
  have hrun : (fn.results.mapM (resV ts)).run P w = .ok us.toArray w := by
    rw [Array.mapM_eq_mapM_toList]
    simp only [Sem.run_map, m1, Result.andThen_ok]
  -- what the results let go counts as fixed from now on
  let I' : Nat → Prop := fun b => I b ∨ Freed s w ts (fn.results.toList.map rslot) b
  have hfreed : ∀ b, Freed s w ts (fn.results.toList.map rslot) b → b < w.heap.size ∧ Mine w0 ext b := by
    rintro b ⟨x, _, hbx, i, hi, hb⟩
    obtain ⟨a1, a2, a3⟩ := inv.away x i b hb
    exact ⟨a2, a3⟩
  have hown : ∀ (j : Nat) (sz : Nat) (rows : List (List D)) (u : Value), cs[j]? = some (.one (.own sz rows)) → us[j]? = some u → ∀ b, u.ownBlock = some b → ¬ I' b ∧ Mine w0 ext b ∧ b < w.heap.size ∧ ∃ x, (fn.results.toList.map rslot)[j]? = some x ∧ (s.get x).blocks w (val ts x) 0 = some b := by
    intro j sz rows u hj hu b hb
    obtain ⟨r, u', e1, e2, e3, e4, e5, e6⟩ := m4 j _ hj
    rw [hu] at e2
    cases e2
    obtain ⟨e8, e7⟩ := e4 sz rows rfl
    have hbk : (s.get (rslot r)).blocks w (val ts (rslot r)) 0 = some b := by rw [e8, ← e7]; simpa [T.blocks] using hb
    obtain ⟨a1, a2, a3⟩ := inv.away (rslot r) 0 b hbk
    refine ⟨fun hI => ?_, ?_, a2, (rslot r), by rw [List.getElem?_map, e1]; rfl, hbk⟩
    · rcases hI with hI | ⟨x, _, hbx, i, hi, hb2⟩
      · exact a1 hI
      · exact hi (inv.inj x i (rslot r) 0 b hb2 hbk).2
    · exact a3
  have hcame : ∀ v, RepV w I' (fun _ => undef) v (resT cs) → (∀ i b, (resT cs).blocks w v i = some b → ∃ sz rows u, cs[i]? = some (.one (.own sz rows)) ∧ us[i]? = some u ∧ u.ownBlock = some b) → CameX ext w0 w I0 v cs := by
    intro v hrep hbl
    refine ⟨inv.fr, I', fun b hb => .inl (h1 b hb), fun b hb => ?_, hrep, fun i b hb => ?_, fun i j b hb1 hb2 => ?_⟩
    · rcases hb with hb | hb
      · exact ⟨inv.Ilt b hb, h2 b hb⟩
      · obtain ⟨f1, f2⟩ := hfreed b hb
        exact ⟨f1, .inr f2⟩
    · obtain ⟨sz, rows, u, e1, e2, e3⟩ := hbl i b hb
      obtain ⟨f1, f2, f3, _⟩ := hown i sz rows u e1 e2 b e3
      exact ⟨f1, f2, f3⟩
    · obtain ⟨sz, rows, u, e1, e2, e3⟩ := hbl i b hb1
      obtain ⟨sz', rows', u', e1', e2', e3'⟩ := hbl j b hb2
      obtain ⟨_, _, _, x, f1, f2⟩ := hown i sz rows u e1 e2 b e3
      obtain ⟨_, _, _, y, g1, g2⟩ := hown j sz' rows' u' e1' e2' b e3'
      have hxy := (inv.inj x 0 y 0 b f2 g2).1
      subst hxy
      exact (List.getElem?_inj (List.getElem?_eq_some_iff.1 f1).1 hnd).1 (f1.trans g1.symm)
  refine ⟨rfl, ?_⟩
  have hres : (results fn ts).run P w = .ok (if h : us.toArray.size = 1 then us.toArray[0] else .tuple us.toArray) w := by
    unfold results
    refine (Sem.run_bind P w (fn.results.mapM (resV ts)) _).trans ?_
    rw [hrun, Result.andThen_ok]
    rfl
  refine ⟨_, hres, ?_⟩
  by_cases h1s : us.length = 1
  · rw [dif_pos (by simpa using h1s)]
    obtain ⟨u, rfl⟩ := List.length_eq_one_iff.1 h1s
    obtain ⟨c, rfl⟩ := List.length_eq_one_iff.1 (m2.symm.trans h1s)
    obtain ⟨r, u', e1, e2, e3, e4, e5, e6⟩ := m4 0 c rfl
    simp only [List.getElem?_cons_zero, Option.some.injEq] at e2
    subst e2
    show CameX ext w0 w I0 u [c]
    cases c with
    | one lf => cases lf with
      | d d => exact hcame u e3 (fun i b hb => by simp [resT, T.blocks] at hb)
      | own sz rows =>
        refine hcame u e3 (fun i b hb => ?_)
        unfold resT T.blocks at hb
        dsimp only at hb
        split at hb
        · rename_i hi; subst hi; exact ⟨sz, rows, u, rfl, rfl, hb⟩
        · cases hb
      | hole => exact absurd rfl e5
    | agg ds => exact hcame u e3 (fun i b hb => by simp [resT, T.blocks] at hb)
    | bx ds =>
      obtain ⟨f1, rfl⟩ := e6 ds rfl
      obtain ⟨g1, g2, g3⟩ := box_res inv (slots := fn.results.toList.map rslot) f1
      refine ⟨inv.fr, I', fun b hb => .inl (h1 b hb), fun b hb => ?_, g1, g2, fun i j b e1 e2 => (g3 i b e1).trans (g3 j b e2).symm⟩
      rcases hb with hb | hb
      · exact ⟨inv.Ilt b hb, h2 b hb⟩
      · obtain ⟨f1, f2⟩ := hfreed b hb
        exact ⟨f1, .inr f2⟩
  · rw [dif_neg (by simpa using h1s)]
    have hresT : resT cs = .tup cs := by
      unfold resT
      split
      · exact absurd m2 (by simpa using h1s)
      · exact absurd m2 (by simpa using h1s)
      · exact absurd m2 (by simpa using h1s)
      · exact absurd m2 (by simpa using h1s)
      · rfl
    have hget : ∀ (j : Nat) (u : Value), us[j]? = some u → us.toArray.getD j undef = u := fun j u hj => by simp [Array.getD_eq_getD_getElem?, hj]
    refine hcame _ ?_ (fun i b hb => ?_)
    · rw [hresT]
      refine ⟨us.toArray, rfl, by simpa using m2, fun j c hj => ?_⟩
      obtain ⟨r, u, e1, e2, e3, e4, e5, e6⟩ := m4 j c hj
      rw [hget j u e2]
      exact e3
    · rw [hresT] at hb
      unfold T.blocks at hb
      dsimp only at hb
      split at hb
      · rename_i sz rows vs hc2 hv
        cases hv
        obtain ⟨r, u, e1, e2, e3, e4, e5, e6⟩ := m4 i _ hc2
        rw [hget i u e2] at hb
        exact ⟨sz, rows, u, hc2, e2, hb⟩
      · cases hb

theorem ret_came {P : Program} {w0 w : World} {I0 : Nat → Prop} {s : S} {a : Act} {fn : Func} {cs : List Comp} (hI0 : ∀ b, I0 b → b < w0.heap.size) (hok : Ok w0 noExt I0 s a w) (hnd : (fn.results.toList.map rslot).Nodup) (hc : Ret P fn.results.toList cs s) :
    a.defers = [] ∧ ∃ v, (results fn a.tmps).run P w = .ok v w ∧ Came w0 w I0 v cs := by
  obtain ⟨h1, v, h2, h3⟩ := ret_cameX hok hnd hc
  exact ⟨h1, v, h2, h3.came⟩
variable (aDraw : Program → Array Oper → S → (S → Prop) → Prop)

/-- A FUNCTION'S CONTRACT, OUT OF ITS CODE. -/
theorem fspec_ofR {P : Program} (hdraw : ∀ ops, drawOf P ops (aDraw P ops)) {f : FuncId} {fn : Func} {body : Code} (hf : P.funcs[f]? = some fn) (hb : fn.body = some body) (hname : (fn.name == "runtime.NumGoroutine") = false) (vars : List Nat) {rs : List ResultVar} (hrs : fn.results.toList = rs) (hnd : (rs.map rslot).Nodup) {n : Nat} (hn : fn.ntmps = n) {as : List Arg} {cs : List Comp}
    (hargs : as.length ≤ n) {R : S → Prop} (hRet : ∀ s, R s → ∃ s', (∀ {w0 w : World} {ext I0 : Nat → Prop} {a : Act}, Ok w0 ext I0 s a w → Ok w0 ext I0 s' a w) ∧ Ret P rs cs s')
    (h : aCode aDraw P body R (fun _ _ => False) R (start n vars as)) : FSpec P f as cs := by
  subst hrs
  subst hn
  intro w I vals hI hrep
  have hlen : as.length = vals.length := args_length hrep
  left
  constructor
  · have hnm : fn.name ≠ "runtime.NumGoroutine" := by simpa using hname
    simp [callFunc, hf, hnm, hb]
  · refine (calls_of_wp hf hb (R := fun e w' => ∃ v, e = .returned v ∧ Came w w' I v cs) ?_)
    let ts : Array Value := vals.toArray ++ Array.replicate (fn.ntmps - vals.toArray.size) undef
    have hval : ∀ (x : Nat) (v : Value), vals[x]? = some v → val ts x = v := by
      intro x v hx
      have hlt : x < vals.length := (List.getElem?_eq_some_iff.1 hx).1
      have hx' : vals[x] = v := by rw [List.getElem?_eq_getElem hlt] at hx; exact Option.some.inj hx
      simp [val, ts, Array.getD_eq_getD_getElem?, Array.getElem?_append, hlt, hx']
    have hget : ∀ x, (start fn.ntmps vars as).get x = if x ∈ vars then argT as x else .none := by
      intro x
      simp only [S.get, start, look, look_startV, Option.getD_none]
      split <;> rfl
    have hargv : ∀ (x : Nat) (A : Arg), as[x]? = some A → ∃ v, vals[x]? = some v ∧ ArgRep w I v A := by
      have : ∀ {as : List Arg} {vals : List Value}, ArgsRep w I as vals → ∀ (x : Nat) (A : Arg), as[x]? = some A → ∃ v, vals[x]? = some v ∧ ArgRep w I v A := by
        intro as
        induction as with
        | nil => intro vals h x A hx; simp at hx
        | cons a as ih =>
          intro vals h x A hx
          cases vals with
          | nil => exact h.elim
          | cons v vals =>
            cases x with
            | zero => simp only [List.getElem?_cons_zero, Option.some.injEq] at hx; subst hx; exact ⟨v, rfl, h.1⟩
            | succ x => simpa using ih h.2 x A (by simpa using hx)
      exact this hrep
    have hrepT : ∀ x, RepV w I (val ts) (val ts x) ((start fn.ntmps vars as).get x) ∧ ((start fn.ntmps vars as).get x).target = none ∧ ∀ i, ((start fn.ntmps vars as).get x).blocks w (val ts x) i = none := by
      intro x
      rw [hget]
      split
      · unfold argT
        split
        · rename_i ds e
          obtain ⟨v, hv, cs', rfl, hr⟩ := hargv x _ e
          rw [hval x _ hv]
          exact ⟨⟨cs', rfl, hr⟩, rfl, fun _ => rfl⟩
        · rename_i cells e
          obtain ⟨v, hv, d', hd, hr⟩ := hargv x _ e
          simp only [List.cons.injEq, and_true] at hd
          subst hd
          rw [hval x _ hv]
          refine ⟨?_, rfl, fun _ => rfl⟩
          cases hr with
          | p _ b o vals hIb ha hv' =>
            refine ⟨b, o, (List.range cells.length).map vals, rfl, hIb, ⟨by simp, fun j d u h1 h2 => ?_⟩, fun j u h2 => ?_⟩
            · have hj : j < cells.length := (List.getElem?_eq_some_iff.1 h1).1
              simp [List.getElem?_map, List.getElem?_range, hj] at h2
              subst h2
              exact hv' j d h1
            · have hj : j < cells.length := by have := (List.getElem?_eq_some_iff.1 h2).1; simpa using this
              simp [List.getElem?_map, List.getElem?_range, hj] at h2
              subst h2
              exact ha j hj
        · rename_i d e
          obtain ⟨v, hv, d', hd, hr⟩ := hargv x _ e
          simp only [List.cons.injEq, and_true] at hd
          subst hd
          rw [hval x _ hv]
          exact ⟨hr, rfl, fun _ => rfl⟩
        · exact ⟨trivial, rfl, fun _ => rfl⟩
      · exact ⟨trivial, rfl, fun _ => rfl⟩
    have inv : Inv w noExt I (start fn.ntmps vars as) ts w := by
      refine ⟨by simp [ts, start]; omega, fun x => (hrepT x).1, fun x i y j b e => ?_, fun x i b e => ?_, hI, fun x y e => ?_, fun x e => ⟨rfl, (hrepT x).2.1⟩, Fr.refl _ _⟩
      · rw [(hrepT x).2.2] at e; cases e
      · rw [(hrepT x).2.2] at e; cases e
      · rw [(hrepT x).2.1] at e; cases e
    have hok : Ok w noExt I (start fn.ntmps vars as) ⟨ts, []⟩ w := ⟨rfl, I, fun _ e => e, fun _ e => .inl e, inv⟩
    have fin : ∀ s' a' w', R s' → Ok w noExt I s' a' w' → a'.defers = [] ∧ ∃ v, (results fn a'.tmps).run P w' = .ok v w' ∧ ∃ v', Ending.returned v = .returned v' ∧ Came w w' I v' cs := by
      intro s' a' w' hR hok'
      obtain ⟨s2, hfl, hR'⟩ := hRet s' hR
      obtain ⟨e1, v, e2, e3⟩ := ret_came hI (hfl hok') hnd hR'
      exact ⟨e1, v, e2, v, rfl, e3⟩
    exact aCode_wp (F := fun _ => none) aDraw hdraw body _ _ _ _ _ w _ (clearC_none body) ⟨hok, fun p u e => by cases e⟩ h (fun s' a' w' hK hok' => fin s' a' w' hK hok'.1) (fun i s' a' w' hE _ => hE.elim) (fun s' a' w' hR hok' => fin s' a' w' hR hok'.1)
theorem fspec_of {P : Program} (hdraw : ∀ ops, drawOf P ops (aDraw P ops)) {f : FuncId} {fn : Func} {body : Code} (hf : P.funcs[f]? = some fn) (hb : fn.body = some body) (hname : (fn.name == "runtime.NumGoroutine") = false) (vars : List Nat) {rs : List ResultVar} (hrs : fn.results.toList = rs) (hnd : (rs.map rslot).Nodup) {n : Nat} (hn : fn.ntmps = n) {as : List Arg} {cs : List Comp}
    (hargs : as.length ≤ n)
    (h : aCode aDraw P body (Ret P rs cs) (fun _ _ => False) (Ret P rs cs) (start n vars as)) : FSpec P f as cs :=
  fspec_ofR aDraw hdraw hf hb hname vars hrs hnd hn hargs (fun s hR => ⟨s, fun h => h, hR⟩) h

end Go.Ax

/- Functions that take lists and boxes over: from their code to their contract. -/
set_option linter.unusedVariables false
set_option linter.unusedSimpArgs false
namespace Go.Ax
open Go

def xT (xs : List XA) (x : Nat) : T := xF xs x
def startVX (xs : List XA) : List Nat → List (Nat × T)
  | [] => []
  | x :: r => (x, xT xs x) :: startVX xs r
def startX (n : Nat) (vars : List Nat) (xs : List XA) : S := { n := n, ts := [], vs := startVX xs vars }
theorem look_startVX (xs : List XA) (vars : List Nat) (x : Nat) : look (startVX xs vars) x = if x ∈ vars then some (xT xs x) else none := by
  induction vars with
  | nil => simp [startVX, look]
  | cons y r ih =>
    simp only [startVX, look, ih, List.mem_cons]
    by_cases h : y = x
    · subst h; simp
    · have : ¬ x = y := fun e => h e.symm
      simp [h, this]
/-- The boxes come back from their slots. -/
def boxesAt : Nat → List XA → List (List Leaf) → S → Prop
  | _, [], _, _ => True
  | k, .box _ :: r, os, s => s.get k = .box (os.headD []) ∧ boxesAt (k + 1) r os.tail s
  | k, .lend sz rows :: r, os, s => s.get k = .own sz rows ∧ boxesAt (k + 1) r os.tail s
  | k, _ :: r, os, s => boxesAt (k + 1) r os.tail s
def boxSlots : Nat → List XA → List Nat
  | _, [] => []
  | k, .box _ :: r => k :: boxSlots (k + 1) r
  | k, .lend _ _ :: r => k :: boxSlots (k + 1) r
  | k, _ :: r => boxSlots (k + 1) r
theorem boxesAt_spec : ∀ {xs : List XA} {os : List (List Leaf)} {k0 : Nat} {s : S}, boxesAt k0 xs os s → ∀ k, oF xs os k ≠ .none → s.get (k0 + k) = oF xs os k ∧ k0 + k ∈ boxSlots k0 xs
  | [], os, k0, s, _, k, h => absurd rfl h
  | .box c :: r, os, k0, s, hb, 0, h => ⟨hb.1, by simp [boxSlots]⟩
  | .box c :: r, os, k0, s, hb, k + 1, h => by
    have := boxesAt_spec hb.2 k h
    rw [show k0 + (k + 1) = k0 + 1 + k by omega]
    exact ⟨this.1, by simp [boxSlots, this.2]⟩
  | .lend sz rows :: r, os, k0, s, hb, 0, h => ⟨hb.1, by simp [boxSlots]⟩
  | .lend sz rows :: r, os, k0, s, hb, k + 1, h => by
    have := boxesAt_spec hb.2 k h
    rw [show k0 + (k + 1) = k0 + 1 + k by omega]
    exact ⟨this.1, by simp [boxSlots, this.2]⟩
  | .d A :: r, os, k0, s, hb, 0, h => absurd rfl h
  | .d A :: r, os, k0, s, hb, k + 1, h => by
    have := boxesAt_spec (xs := r) (os := os.tail) (k0 := k0 + 1) hb k h
    rw [show k0 + (k + 1) = k0 + 1 + k by omega]
    exact this
  | .own sz rows :: r, os, k0, s, hb, 0, h => absurd rfl h
  | .own sz rows :: r, os, k0, s, hb, k + 1, h => by
    have := boxesAt_spec (xs := r) (os := os.tail) (k0 := k0 + 1) hb k h
    rw [show k0 + (k + 1) = k0 + 1 + k by omega]
    exact this
theorem oF_target : ∀ (xs : List XA) (os : List (List Leaf)) (k : Nat), (oF xs os k).target = none
  | [], os, k => rfl
  | a :: r, os, 0 => by cases a <;> rfl
  | a :: r, os, k + 1 => oF_target r os.tail k
theorem valsF_get (vals : List Value) (x : Nat) : valsF vals x = vals.getD x undef := by
  induction vals generalizing x with
  | nil => rfl
  | cons v r ih =>
    cases x with
    | zero => rfl
    | succ x => simpa [valsF, consF] using ih x
theorem xF_target (xs : List XA) (x : Nat) : (xF xs x).target = none := by
  induction xs generalizing x with
  | nil => rfl
  | cons a r ih =>
    cases x with
    | zero =>
      cases a with
      | d A =>
        show (XA.tt (.d A)).target = none
        unfold XA.tt
        split <;> rfl
      | own sz rows => rfl
      | lend sz rows => rfl
      | box c => rfl
    | succ x => exact ih x

theorem xF_out (xs : List XA) (x : Nat) (h : xs.length ≤ x) : xF xs x = .none := by
  induction xs generalizing x with
  | nil => rfl
  | cons a r ih =>
    cases x with
    | zero => simp at h
    | succ x => exact ih x (by simpa using h)

/-- The end of such a function. -/
theorem ret_hold {P : Program} {w0 w : World} {ext I0 : Nat → Prop} {s : S} {a : Act} {fn : Func} {cs : List Comp} {xs : List XA} {os : List (List Leaf)} {vals : List Value} (hok : Ok w0 ext I0 s a w) (hnd : (fn.results.toList.map rslot).Nodup)
    (hc : Ret P fn.results.toList cs s) (hbox : boxesAt 0 xs os s) (hval : ∀ k, k ∈ boxSlots 0 xs → val a.tmps k = vals.getD k undef) (hfree : ∀ k, k ∈ boxSlots 0 xs → k ∉ fn.results.toList.map rslot) :
    a.defers = [] ∧ ∃ v, (results fn a.tmps).run P w = .ok v w ∧ Fr ext w0 w ∧ ∃ I', (∀ b, I0 b → I' b) ∧ (∀ b, I' b → b < w.heap.size ∧ (I0 b ∨ Mine w0 ext b)) ∧ Hold w0 ext I' w (consF v (valsF vals)) (consF (resT cs) (oF xs os)) := by
  obtain ⟨h0, I, h1, h2, inv⟩ := hok
  obtain ⟨ts, ds⟩ := a
  simp only at h0 inv hval
  subst h0
  obtain ⟨us, m1, m2, m3, m4⟩ := retCs_sound inv (slots := fn.results.toList.map rslot) hc (fun r hr => List.mem_map.2 ⟨r, hr, rfl⟩)
  have hrun : (fn.results.mapM (resV ts)).run P w = .ok us.toArray w := by
    rw [Array.mapM_eq_mapM_toList]
    simp only [Sem.run_map, m1, Result.andThen_ok]
  let I' : Nat → Prop := fun b => I b ∨ Freed s w ts (fn.results.toList.map rslot) b
  have hfreed : ∀ b, Freed s w ts (fn.results.toList.map rslot) b → b < w.heap.size ∧ Mine w0 ext b := by
    rintro b ⟨x, _, hbx, i, hi, hb⟩
    obtain ⟨a1, a2, a3⟩ := inv.away x i b hb
    exact ⟨a2, a3⟩
  have hown : ∀ (j : Nat) (sz : Nat) (rows : List (List D)) (u : Value), cs[j]? = some (.one (.own sz rows)) → us[j]? = some u → ∀ b, u.ownBlock = some b → ¬ I' b ∧ Mine w0 ext b ∧ b < w.heap.size ∧ ∃ x, (fn.results.toList.map rslot)[j]? = some x ∧ (s.get x).blocks w (val ts x) 0 = some b := by
    intro j sz rows u hj hu b hb
    obtain ⟨r, u', e1, e2, e3, e4, e5, e6⟩ := m4 j _ hj
    rw [hu] at e2
    cases e2
    obtain ⟨e8, e7⟩ := e4 sz rows rfl
    have hbk : (s.get (rslot r)).blocks w (val ts (rslot r)) 0 = some b := by rw [e8, ← e7]; simpa [T.blocks] using hb
    obtain ⟨a1, a2, a3⟩ := inv.away (rslot r) 0 b hbk
    refine ⟨fun hI => ?_, ?_, a2, (rslot r), by rw [List.getElem?_map, e1]; rfl, hbk⟩
    · rcases hI with hI | ⟨x, _, hbx, i, hi, hb2⟩
      · exact a1 hI
      · exact hi (inv.inj x i (rslot r) 0 b hb2 hbk).2
    · exact a3
  -- the boxes
  have hout : ∀ k, oF xs os k ≠ .none → s.get k = oF xs os k ∧ k ∈ boxSlots 0 xs := fun k hk => by
    have := boxesAt_spec hbox k hk
    rwa [Nat.zero_add] at this
  have hob : ∀ k i b, (oF xs os k).blocks w (valsF vals k) i = some b → (s.get k).blocks w (val ts k) i = some b ∧ k ∈ boxSlots 0 xs := fun k i b e => by
    have hne : oF xs os k ≠ .none := fun h => by rw [h] at e; simp [T.blocks] at e
    obtain ⟨g1, g2⟩ := hout k hne
    rw [g1, hval k g2, ← valsF_get]
    exact ⟨e, g2⟩
  have hhold : ∀ v, RepV w I' (fun _ => undef) v (resT cs) → (∀ i b, (resT cs).blocks w v i = some b → ¬ I' b ∧ Mine w0 ext b ∧ b < w.heap.size ∧ ∃ x, (fn.results.toList.map rslot)[i]? = some x ∧ (s.get x).blocks w (val ts x) 0 = some b) → Hold w0 ext I' w (consF v (valsF vals)) (consF (resT cs) (oF xs os)) := by
    intro v hrep hbl
    have cross : ∀ i k j b, (resT cs).blocks w v i = some b → (oF xs os k).blocks w (valsF vals k) j = some b → False := fun i k j b e1 e2 => by
      obtain ⟨_, _, _, x, g1, g2⟩ := hbl i b e1
      obtain ⟨g3, g4⟩ := hob k j b e2
      have := (inv.inj x 0 k j b g2 g3).1
      subst this
      exact hfree x g4 (List.mem_of_getElem? g1)
    refine ⟨fun x => ?_, fun x i y j b e1 e2 => ?_, fun x i b e => ?_⟩
    · cases x with
      | zero => exact hrep
      | succ k =>
        show RepV w I' _ (valsF vals k) (oF xs os k)
        by_cases h : oF xs os k = .none
        · rw [h]; trivial
        · obtain ⟨g1, g2⟩ := hout k h
          have hr := inv.rep k
          unfold RepT at hr
          rw [g1, hval k g2, ← valsF_get] at hr
          have ht := oF_target xs os k
          exact RepV.mono (fun _ _ => rfl) (fun _ e => .inl e) (fun _ _ _ => rfl) (fun y off b e _ => absurd ht (by rw [e]; intro h; cases h)) (RepV.slots (fun y hy => by rw [ht] at hy; cases hy) hr)
    · cases x with
      | zero => cases y with
        | zero =>
          refine ⟨rfl, ?_⟩
          obtain ⟨_, _, _, x, g1, g2⟩ := hbl i b e1
          obtain ⟨_, _, _, y, k1, k2⟩ := hbl j b e2
          have hxy := (inv.inj x 0 y 0 b g2 k2).1
          subst hxy
          exact (List.getElem?_inj (List.getElem?_eq_some_iff.1 g1).1 hnd).1 (g1.trans k1.symm)
        | succ k => exact (cross i k j b e1 e2).elim
      | succ k => cases y with
        | zero => exact (cross j k i b e2 e1).elim
        | succ k' =>
          obtain ⟨g1, g2⟩ := inv.inj k i k' j b (hob k i b e1).1 (hob k' j b e2).1
          exact ⟨by rw [g1], g2⟩
    · cases x with
      | zero =>
        obtain ⟨g1, g2, g3, _⟩ := hbl i b e
        exact ⟨g1, g3, g2⟩
      | succ k =>
        obtain ⟨g1, g2⟩ := hob k i b e
        obtain ⟨a1, a2, a3⟩ := inv.away k i b g1
        refine ⟨fun hI => ?_, a2, a3⟩
        rcases hI with hI | ⟨x, hx, hbx, i', hi', hb2⟩
        · exact a1 hI
        · have := (inv.inj x i' k i b hb2 g1).1
          subst this
          exact hfree x g2 hx
  have hI0 : ∀ b, I' b → b < w.heap.size ∧ (I0 b ∨ Mine w0 ext b) := fun b hb => by
    rcases hb with hb | hb
    · exact ⟨inv.Ilt b hb, h2 b hb⟩
    · obtain ⟨f1, f2⟩ := hfreed b hb
      exact ⟨f1, .inr f2⟩
  refine ⟨rfl, ?_⟩
  have hres : (results fn ts).run P w = .ok (if h : us.toArray.size = 1 then us.toArray[0] else .tuple us.toArray) w := by
    unfold results
    refine (Sem.run_bind P w (fn.results.mapM (resV ts)) _).trans ?_
    rw [hrun, Result.andThen_ok]
    rfl
  refine ⟨_, hres, inv.fr, I', fun b hb => .inl (h1 b hb), hI0, ?_⟩
  by_cases h1s : us.length = 1
  · rw [dif_pos (by simpa using h1s)]
    obtain ⟨u, rfl⟩ := List.length_eq_one_iff.1 h1s
    obtain ⟨c, rfl⟩ := List.length_eq_one_iff.1 (m2.symm.trans h1s)
    obtain ⟨r, u', e1, e2, e3, e4, e5, e6⟩ := m4 0 c rfl
    simp only [List.getElem?_cons_zero, Option.some.injEq] at e2
    subst e2
    show Hold w0 ext I' w (consF u (valsF vals)) (consF (resT [c]) (oF xs os))
    cases c with
    | one lf => cases lf with
      | d d => exact hhold u e3 (fun i b hb => by simp [resT, T.blocks] at hb)
      | own sz rows =>
        refine hhold u e3 (fun i b hb => ?_)
        unfold resT T.blocks at hb
        dsimp only at hb
        split at hb
        · rename_i hi; subst hi; exact hown 0 sz rows u rfl rfl b hb
        · cases hb
      | hole => exact absurd rfl e5
    | agg ds => exact hhold u e3 (fun i b hb => by simp [resT, T.blocks] at hb)
    | bx ds =>
      obtain ⟨f1, rfl⟩ := e6 ds rfl
      obtain ⟨g1, g2, g3⟩ := box_res inv (slots := fn.results.toList.map rslot) f1
      refine hhold _ g1 (fun i b hb => ?_)
      have hi : i = 0 := g3 i b hb
      subst hi
      obtain ⟨q1, q2, q3⟩ := g2 0 b hb
      exact ⟨q1, q2, q3, rslot r, by rw [List.getElem?_map, e1]; rfl, by rw [f1]; exact hb⟩
  · rw [dif_neg (by simpa using h1s)]
    have hresT : resT cs = .tup cs := by
      unfold resT
      split
      · exact absurd m2 (by simpa using h1s)
      · exact absurd m2 (by simpa using h1s)
      · exact absurd m2 (by simpa using h1s)
      · exact absurd m2 (by simpa using h1s)
      · rfl
    have hget : ∀ (j : Nat) (u : Value), us[j]? = some u → us.toArray.getD j undef = u := fun j u hj => by simp [Array.getD_eq_getD_getElem?, hj]
    refine hhold _ ?_ (fun i b hb => ?_)
    · rw [hresT]
      refine ⟨us.toArray, rfl, by simpa using m2, fun j c hj => ?_⟩
      obtain ⟨r, u, e1, e2, e3, e4, e5, e6⟩ := m4 j c hj
      rw [hget j u e2]
      exact e3
    · rw [hresT] at hb
      unfold T.blocks at hb
      dsimp only at hb
      split at hb
      · rename_i sz rows vs hc2 hv
        cases hv
        obtain ⟨r, u, e1, e2, e3, e4, e5, e6⟩ := m4 i _ hc2
        rw [hget i u e2] at hb
        exact hown i sz rows u hc2 e2 b hb
      · cases hb

theorem Hold.res {w0 w : World} {ext I : Nat → Prop} {v : Value} {vs : Nat → Value} {cs : List Comp} {tt : Nat → T} {w1 : World} (h : Hold w0 ext I w (consF v vs) (consF (resT cs) tt)) : True := trivial

variable (aDraw : Program → Array Oper → S → (S → Prop) → Prop)
/-- SUCH A FUNCTION'S CONTRACT, OUT OF ITS CODE. -/
theorem xspec_of {P : Program} (hdraw : ∀ ops, drawOf P ops (aDraw P ops)) {f : FuncId} {fn : Func} {body : Code} (hf : P.funcs[f]? = some fn) (hb : fn.body = some body) (hname : (fn.name == "runtime.NumGoroutine") = false) (vars : List Nat) {rs : List ResultVar} (hrs : fn.results.toList = rs)
    (hnd : (fn.results.toList.map rslot).Nodup) {n : Nat} (hn : fn.ntmps = n) {xs : List XA} {os : List (List Leaf)} {cs : List Comp} (hargs : xs.length ≤ n) (hclear : clearB (boxSlots 0 xs) body = true) (hfree : (boxSlots 0 xs).all (fun k => notIn k (rs.map rslot)) = true) (hvars : (boxSlots 0 xs).all (fun k => k < xs.length) = true)
    {R : S → Prop} (hRet : ∀ s, R s → ∃ s', (∀ {w0 w : World} {ext I0 : Nat → Prop} {a : Act}, Ok w0 ext I0 s a w → Ok w0 ext I0 s' a w) ∧ Ret P rs cs s' ∧ boxesAt 0 xs os s')
    (h : aCode aDraw P body R (fun _ _ => False) R (startX n vars xs)) : XSpec P f xs os cs := by
  subst hrs
  subst hn
  intro w I vals hI hlen hhold
  left
  constructor
  · have hnm : fn.name ≠ "runtime.NumGoroutine" := by simpa using hname
    simp [callFunc, hf, hnm, hb]
  · refine (calls_of_wp hf hb (R := fun e w' => ∃ v, e = .returned v ∧ CameH w w' I (valsF vals) xs os v cs) ?_)
    let ts : Array Value := vals.toArray ++ Array.replicate (fn.ntmps - vals.toArray.size) undef
    have hval : ∀ x, x < vals.length → val ts x = valsF vals x := by
      intro x hx
      rw [valsF_get]
      simp [val, ts, Array.getD_eq_getD_getElem?, Array.getElem?_append, hx, List.getD_eq_getElem?_getD]
    have hget : ∀ x, (startX fn.ntmps vars xs).get x = if x ∈ vars then xF xs x else .none := by
      intro x
      simp only [S.get, startX, look, look_startVX, Option.getD_none]
      split <;> rfl
    have hsame : ∀ x, (startX fn.ntmps vars xs).get x = .none ∨ ((startX fn.ntmps vars xs).get x = xF xs x ∧ val ts x = valsF vals x) := fun x => by
      rw [hget]
      split
      · rcases Nat.lt_or_ge x vals.length with hx | hx
        · exact .inr ⟨rfl, hval x hx⟩
        · exact .inl (xF_out xs x (by omega))
      · exact .inl rfl
    have hbl : ∀ x i b, ((startX fn.ntmps vars xs).get x).blocks w (val ts x) i = some b → (xF xs x).blocks w (valsF vals x) i = some b := fun x i b e => by
      rcases hsame x with h | ⟨h1, h2⟩
      · rw [h] at e; simp [T.blocks] at e
      · rw [h1, h2] at e; exact e
    have htg : ∀ x, ((startX fn.ntmps vars xs).get x).target = none := fun x => by
      rcases hsame x with h | ⟨h1, h2⟩
      · rw [h]; rfl
      · rw [h1]; exact xF_target xs x
    have inv : Inv w (blocksOf w (valsF vals) (xF xs)) I (startX fn.ntmps vars xs) ts w := by
      refine ⟨by simp [ts, startX]; omega, fun x => ?_, fun x i y j b e1 e2 => hhold.inj x i y j b (hbl x i b e1) (hbl y j b e2), fun x i b e => hhold.away x i b (hbl x i b e), hI, fun x y e => ?_, fun x e => ⟨rfl, htg x⟩, Fr.refl _ _⟩
      · show RepV w I (val ts) (val ts x) _
        rcases hsame x with h | ⟨h1, h2⟩
        · rw [h]; trivial
        · rw [h1, h2]
          exact RepV.slots (fun y hy => by rw [xF_target] at hy; cases hy) (hhold.rep x)
      · rw [htg] at e; cases e
    have hok : Ok w (blocksOf w (valsF vals) (xF xs)) I (startX fn.ntmps vars xs) ⟨ts, []⟩ w := ⟨rfl, I, fun _ e => e, fun _ e => .inl e, inv⟩
    let F : Nat → Option Value := fun p => if p ∈ boxSlots 0 xs then some (valsF vals p) else none
    have hokF : OkF F w (blocksOf w (valsF vals) (xF xs)) I (startX fn.ntmps vars xs) ⟨ts, []⟩ w := ⟨hok, fun p u hp => by
      simp only [F] at hp
      split at hp
      · rename_i hm
        cases hp
        have := List.all_eq_true.1 hvars p hm
        simp only [decide_eq_true_eq] at this
        exact hval p (by omega)
      · cases hp⟩
    have fin : ∀ s' a' w', R s' → OkF F w (blocksOf w (valsF vals) (xF xs)) I s' a' w' → a'.defers = [] ∧ ∃ v, (results fn a'.tmps).run P w' = .ok v w' ∧ ∃ v', Ending.returned v = .returned v' ∧ CameH w w' I (valsF vals) xs os v' cs := by
      intro s' a' w' hR hok'
      obtain ⟨s2, hfl, hR1, hR2⟩ := hRet s' hR
      obtain ⟨e1, v, e2, e3, I', e4, e5, e6⟩ := ret_hold (vals := vals) (hfl hok'.1) hnd hR1 hR2 (fun k hk => by rw [← valsF_get]; exact hok'.2 k _ (by simp [F, hk])) (fun k hk => notIn_spec (List.all_eq_true.1 hfree k hk))
      exact ⟨e1, v, e2, v, rfl, e3, I', e4, e5, e6⟩
    exact aCode_wp (F := F) aDraw hdraw body _ _ _ _ _ w _ (clearB_spec (fun d hd => by simp [F, hd]) hclear) hokF h (fun s' a' w' hK hok' => fin s' a' w' hK hok') (fun i s' a' w' hE _ => hE.elim) (fun s' a' w' hR hok' => fin s' a' w' hR hok')
end Go.Ax

/- What an operation reads and what it leaves: its step as a list of edits. -/
set_option linter.unusedVariables false
set_option linter.unusedSimpArgs false
namespace Go.Ax
open Go

/-- A state's variables are plain. -/
def Wf (s : S) : Prop := ∀ x, s.isVar x = true → look s.ts x = none ∧ (s.get x).target = none

inductive Ed where
  | put (x : Nat) (t : T)
  | upd (y : Nat) (t : T)
  | putT (x : Nat) (t : T)
  | noC
def Ed.ap : Ed → S → S
  | .put x t, s => s.put x t
  | .upd y t, s => if (s.get y).isBox = t.isBox then s.upd y t else s
  | .putT x t, s => s.putT x t
  | .noC, s => s.noC
def aps : List Ed → S → S
  | [], s => s
  | e :: r, s => aps r (e.ap s)
/-- Slots that matter to a value: its target; n: it names a cell. -/
def tfp (n : Nat) : T → List Nat
  | .ref y => [y]
  | .bref y _ => [y]
  | .oref y _ _ _ => [y]
  | .cref y _ => [y, n]
  | _ => []
def Ed.slot (n : Nat) : Ed → Nat
  | .put x _ => x
  | .upd y _ => y
  | .putT x _ => x
  | .noC => n
/-- One slot's value behind an edit. -/
def Ed.val (isv : Nat → Bool) (z : Nat) : Ed → T → T
  | .put x t, u => if x = z then t else if isv x = true ∧ u.target = some x then .none else u
  | .upd y t, u => if y = z then (if u.isBox = t.isBox then t else u) else u
  | .putT x t, u => if x = z then t else u
  | .noC, u => match u with
    | .cref _ _ => .none
    | u => u
def vals (isv : Nat → Bool) (z : Nat) : List Ed → T → T
  | [], u => u
  | e :: r, u => vals isv z r (e.val isv z u)
/-- What a value refers to is told in rd: by itself, or (n + 1 + y) as far as there is a box at all. -/
def TgIn (n : Nat) (rd : List Nat) (t : T) : Prop := (∀ z ∈ tfp n t, z ∈ rd) ∨ ∃ y off, t = .bref y off ∧ n + 1 + y ∈ rd
/-- An edit that fits: what it leaves comes from rd. -/
def Ed.Good (isv : Nat → Bool) (n : Nat) (rd : List Nat) : Ed → Prop
  | .put x t => (isv x = true → t.target = none) ∧ TgIn n rd t ∧ (∀ y, t.target = some y → isv y = true) ∧ (n ≤ x → t.target = none)
  | .upd y t => isv y = true ∧ t.target = none
  | .putT x t => isv x = false ∧ t.target = none
  | .noC => True

theorem tfp_target {n : Nat} {t : T} {y : Nat} (h : t.target = some y) : y ∈ tfp n t := by
  cases t <;> simp only [T.target, tfp] at h ⊢ <;> first | (cases h; simp) | cases h
theorem tfp_nil {n : Nat} {t : T} (h : t.target = none) : tfp n t = [] := by
  cases t <;> simp only [T.target, tfp] at h ⊢ <;> cases h

theorem TgIn.plain {n : Nat} {rd : List Nat} {t : T} (h : t.target = none) : TgIn n rd t := .inl (by rw [tfp_nil h]; simp)
theorem TgIn.mono {n : Nat} {rd rd' : List Nat} {t : T} (h : TgIn n rd t) (h1 : ∀ z ∈ rd, z ∈ rd') : TgIn n rd' t := by
  rcases h with h | ⟨y, off, e, h⟩
  · exact .inl fun z hz => h1 z (h z hz)
  · exact .inr ⟨y, off, e, h1 _ h⟩
theorem Ed.ap_n (e : Ed) (s : S) : (e.ap s).n = s.n := by
  cases e with
  | put x t => exact S.put_n s x t
  | upd y t => simp only [Ed.ap]; split <;> rfl
  | _ => rfl
theorem Ed.ap_isVar (e : Ed) (s : S) (x : Nat) : (e.ap s).isVar x = s.isVar x := by
  cases e with
  | put y t => exact S.put_isVar s y t x
  | upd y t =>
    simp only [Ed.ap]
    split
    · exact S.upd_isVar s y t x
    · rfl
  | putT y t => rfl
  | noC => rfl

theorem Wf.target {s : S} (wf : Wf s) {x : Nat} {t : T} (h : look s.vs x = some t) : t.target = none := by
  have h1 := wf x (by simp [S.isVar, h])
  unfold S.get at h1
  rw [h1.1, h] at h1
  exact h1.2

theorem Ed.ap_get {e : Ed} {s : S} {rd : List Nat} (wf : Wf s) (g : e.Good s.isVar s.n rd) (z : Nat) : (e.ap s).get z = e.val s.isVar z (s.get z) := by
  cases e with
  | put x t =>
    simp only [Ed.ap, Ed.val, S.put]
    split
    · rename_i hv
      simp only [hv, true_and]
      have hl : look s.ts x = none := (wf x hv).1
      by_cases hxz : x = z
      · subst hxz
        obtain ⟨u, hu⟩ := Option.isSome_iff_exists.1 (show (look s.vs x).isSome = true from hv)
        simp [S.get, S.putV, look_kill, hl, look_setv, hu]
      · simp only [if_neg hxz, S.get, S.putV, look_kill, look_setv]
        obtain ⟨o, hz⟩ : ∃ o, look s.ts z = o := ⟨_, rfl⟩
        simp only [hz]
        cases o with
        | some u => simp only [Option.map_some, Option.getD_some]
        | none =>
          simp only [Option.map_none, Option.getD_none]
          rw [if_neg]
          intro h
          cases hvz : look s.vs z with
          | none => rw [hvz] at h; cases h
          | some u => rw [hvz] at h; simp only [Option.getD_some] at h; rw [wf.target hvz] at h; cases h
    · rename_i hv
      simp only [hv]
      rw [S.get_putT]
      simp
  | upd y t =>
    obtain ⟨hv, _⟩ := g
    simp only [Ed.ap, Ed.val]
    by_cases hb : (s.get y).isBox = t.isBox
    · rw [if_pos hb, S.get_upd s y t hv (wf y hv).1 z]
      by_cases hz : y = z
      · subst hz; rw [if_pos rfl, if_pos rfl, if_pos hb]
      · rw [if_neg hz, if_neg hz]
    · rw [if_neg hb]
      by_cases hz : y = z
      · subst hz; rw [if_pos rfl, if_neg hb]
      · rw [if_neg hz]
  | putT x t => exact S.get_putT s x t z
  | noC =>
    simp only [Ed.ap, Ed.val, S.noC, S.get, look_noC]
    obtain ⟨o, hz⟩ : ∃ o, look s.ts z = o := ⟨_, rfl⟩
    simp only [hz]
    cases o with
    | some u => simp only [Option.map_some, Option.getD_some]; cases u <;> rfl
    | none =>
      simp only [Option.map_none, Option.getD_none]
      cases hvz : look s.vs z with
      | none => rfl
      | some u =>
        have := wf.target hvz
        cases u <;> first | rfl | cases this

theorem Ed.ap_wf {e : Ed} {s : S} {rd : List Nat} (wf : Wf s) (g : e.Good s.isVar s.n rd) : Wf (e.ap s) := by
  intro x hx
  have hg := Ed.ap_get wf g x
  rw [Ed.ap_isVar] at hx
  obtain ⟨h1, h2⟩ := wf x hx
  constructor
  · cases e with
    | put y t =>
      simp only [Ed.ap, S.put]
      split
      · simp [S.putV, look_kill, h1]
      · rename_i hv
        have : y ≠ x := fun e => by subst e; exact hv hx
        simp [S.putT, look, this, h1]
    | upd y t => simp only [Ed.ap]; split <;> exact h1
    | putT y t =>
      have : y ≠ x := fun e => by subst e; rw [g.1] at hx; cases hx
      simp [Ed.ap, S.putT, look, this, h1]
    | noC => simp [Ed.ap, S.noC, look_noC, h1]
  · rw [hg]
    cases e with
    | put y t =>
      simp only [Ed.val]
      split
      · rename_i e; subst e; exact g.1 hx
      · split
        · rfl
        · exact h2
    | upd y t =>
      simp only [Ed.val]
      split
      · split
        · exact g.2
        · exact h2
      · exact h2
    | putT y t => simp only [Ed.val]; split; exact g.2; exact h2
    | noC =>
      simp only [Ed.val]
      split
      · rfl
      · exact h2

theorem aps_n (es : List Ed) (s : S) : (aps es s).n = s.n := by
  induction es generalizing s with
  | nil => rfl
  | cons e r ih => exact (ih _).trans (e.ap_n s)
theorem aps_isVar (es : List Ed) (s : S) (x : Nat) : (aps es s).isVar x = s.isVar x := by
  induction es generalizing s with
  | nil => rfl
  | cons e r ih => exact (ih _).trans (e.ap_isVar s x)
theorem aps_isVar' (es : List Ed) (s : S) : (aps es s).isVar = s.isVar := funext (aps_isVar es s)
theorem aps_wf {es : List Ed} {s : S} {rd : List Nat} (wf : Wf s) (g : ∀ e ∈ es, Ed.Good s.isVar s.n rd e) : Wf (aps es s) := by
  induction es generalizing s with
  | nil => exact wf
  | cons e r ih =>
    refine ih (Ed.ap_wf wf (g e (by simp))) (fun e' he' => ?_)
    rw [show (e.ap s).isVar = s.isVar from funext (e.ap_isVar s), e.ap_n]
    exact g e' (by simp [he'])
theorem aps_get {es : List Ed} {s : S} {rd : List Nat} (wf : Wf s) (g : ∀ e ∈ es, Ed.Good s.isVar s.n rd e) (z : Nat) : (aps es s).get z = vals s.isVar z es (s.get z) := by
  induction es generalizing s with
  | nil => rfl
  | cons e r ih =>
    have hv : (e.ap s).isVar = s.isVar := funext (e.ap_isVar s)
    simp only [aps, vals]
    rw [ih (Ed.ap_wf wf (g e (by simp))) (fun e' he' => by rw [hv, e.ap_n]; exact g e' (by simp [he'])), hv, Ed.ap_get wf (g e (by simp))]
theorem aps_append (es fs : List Ed) (s : S) : aps (es ++ fs) s = aps fs (aps es s) := by
  induction es generalizing s with
  | nil => rfl
  | cons e r ih => exact ih _

/-! ### What edits leave alone -/
def Ed.kills : Ed → T → Prop
  | .put x _, u => u.target = some x
  | .noC, u => ∃ y off, u = .cref y off
  | _, _ => False
/-- An edit lies in wr: its slot; and that something is put there. -/
def Ed.In (n : Nat) (wr : List Nat) (e : Ed) : Prop := e.slot n ∈ wr ∧ ∀ x t, e = .put x t → n + 1 + x ∈ wr
theorem Ed.val_same {isv : Nat → Bool} {n z : Nat} {e : Ed} {u : T} (h1 : e.slot n ≠ z) (h2 : ¬ e.kills u) : e.val isv z u = u := by
  cases e with
  | put x t =>
    simp only [Ed.val, Ed.slot, Ed.kills] at *
    rw [if_neg h1, if_neg]
    rintro ⟨_, h⟩
    exact h2 h
  | upd y t => exact if_neg h1
  | putT y t => exact if_neg h1
  | noC => cases u <;> first | rfl | exact absurd ⟨_, _, rfl⟩ h2
theorem vals_same {isv : Nat → Bool} {n z : Nat} {es : List Ed} {u : T} (h1 : ∀ e ∈ es, e.slot n ≠ z) (h2 : ∀ e ∈ es, ¬ e.kills u) : vals isv z es u = u := by
  induction es with
  | nil => rfl
  | cons e r ih =>
    simp only [vals]
    rw [Ed.val_same (h1 e (by simp)) (h2 e (by simp))]
    exact ih (fun e he => h1 e (by simp [he])) (fun e he => h2 e (by simp [he]))
theorem kills_plain {e : Ed} {u : T} (h : u.target = none) : ¬ e.kills u := by
  cases e <;> simp only [Ed.kills] <;> first
    | (rw [h]; simp)
    | (rintro ⟨y, off, rfl⟩; cases h)
    | exact fun h => h
/-- What is told in rd is not forgotten by edits that lie elsewhere. -/
theorem not_kills {n : Nat} {rd wr : List Nat} {e : Ed} {u : T} (h : TgIn n rd u) (he : e.In n wr) (ha : ∀ z ∈ wr, z ∉ rd) : ¬ e.kills u := by
  intro hk
  cases e with
  | put x t =>
    simp only [Ed.kills] at hk
    rcases h with h | ⟨y, off, rfl, h⟩
    · exact ha _ he.1 (h x (tfp_target hk))
    · simp only [T.target, Option.some.injEq] at hk
      subst hk
      exact ha _ (he.2 _ _ rfl) h
  | upd y t => exact hk
  | putT y t => exact hk
  | noC =>
    obtain ⟨y, off, rfl⟩ := hk
    rcases h with h | ⟨y', off', e, h⟩
    · exact ha _ he.1 (h n (by simp [tfp]))
    · cases e
/-- Left alone, or forgotten. -/
theorem vals_less {isv : Nat → Bool} {n z : Nat} {es : List Ed} {u : T} (h1 : ∀ e ∈ es, e.slot n ≠ z) : vals isv z es u = u ∨ vals isv z es u = .none := by
  induction es generalizing u with
  | nil => exact .inl rfl
  | cons e r ih =>
    simp only [vals]
    have h0 := h1 e (by simp)
    have : e.val isv z u = u ∨ e.val isv z u = .none := by
      cases e with
      | put x t =>
        simp only [Ed.val, Ed.slot] at *
        rw [if_neg h0]
        split
        · exact .inr rfl
        · exact .inl rfl
      | upd y t => exact .inl (if_neg h0)
      | putT y t => exact .inl (if_neg h0)
      | noC => cases u <;> first | exact .inl rfl | exact .inr rfl
    have hr := fun u => ih (u := u) (fun e he => h1 e (by simp [he]))
    rcases this with h | h <;> rw [h]
    · exact hr u
    · rcases hr .none with k | k <;> rw [k] <;> exact .inr rfl
theorem not_box {u : T} {x : Nat} (h : u.target = some x) : u.isBox = false := by cases u <;> first | rfl | cases h
/-- Whether a variable is a box turns only where something is put. -/
theorem Ed.val_box {isv : Nat → Bool} {z : Nat} {e : Ed} {u : T} (h : ∀ t, e ≠ .put z t) (h2 : ∀ t, e ≠ .putT z t) : (e.val isv z u).isBox = u.isBox := by
  cases e with
  | put x t =>
    simp only [Ed.val]
    rw [if_neg (fun e => h t (by rw [e]))]
    split
    · rename_i hk; rw [not_box hk.2]; rfl
    · rfl
  | upd y t =>
    simp only [Ed.val]
    split
    · split
      · rename_i hb; exact hb.symm
      · rfl
    · rfl
  | putT y t => simp only [Ed.val]; rw [if_neg (fun e => h2 t (by rw [e]))]
  | noC => cases u <;> rfl
theorem vals_box {isv : Nat → Bool} {z : Nat} {es : List Ed} {u : T} (h : ∀ e ∈ es, (∀ t, e ≠ .put z t) ∧ ∀ t, e ≠ .putT z t) : (vals isv z es u).isBox = u.isBox := by
  induction es generalizing u with
  | nil => rfl
  | cons e r ih =>
    simp only [vals]
    rw [ih (fun e he => h e (by simp [he])), Ed.val_box (h e (by simp)).1 (h e (by simp)).2]
theorem Ed.val_boxc {isv : Nat → Bool} {z : Nat} {e : Ed} {u v : T} (h : u.isBox = v.isBox) : (e.val isv z u).isBox = (e.val isv z v).isBox := by
  have keep : ∀ u : T, (∀ t, e ≠ .put z t) → (∀ t, e ≠ .putT z t) → (e.val isv z u).isBox = u.isBox := fun u h1 h2 => Ed.val_box h1 h2
  by_cases h1 : ∃ t, e = .put z t
  · obtain ⟨t, rfl⟩ := h1; simp only [Ed.val, if_true]
  · by_cases h2 : ∃ t, e = .putT z t
    · obtain ⟨t, rfl⟩ := h2; simp only [Ed.val, if_true]
    · rw [keep u (fun t e => h1 ⟨t, e⟩) (fun t e => h2 ⟨t, e⟩), keep v (fun t e => h1 ⟨t, e⟩) (fun t e => h2 ⟨t, e⟩), h]
theorem vals_boxc {isv : Nat → Bool} {z : Nat} {es : List Ed} {u v : T} (h : u.isBox = v.isBox) : (vals isv z es u).isBox = (vals isv z es v).isBox := by
  induction es generalizing u v with
  | nil => exact h
  | cons e r ih => exact ih (Ed.val_boxc h)

/-! ### Edits that don't touch -/
def Apart (n : Nat) (rd1 wr1 rd2 wr2 : List Nat) : Prop := (∀ z ∈ wr1, z ∉ rd2 ∧ z ∉ wr2) ∧ ∀ z ∈ wr2, z ∉ rd1 ∧ z ∉ wr1

/-- It puts a value there. -/
def Ed.hit (z : Nat) : Ed → Prop
  | .put x _ => x = z
  | .upd y _ => y = z
  | .putT x _ => x = z
  | .noC => False
def Ed.drops (isv : Nat → Bool) : Ed → T → Prop
  | .put x _, u => isv x = true ∧ u.target = some x
  | .noC, u => ∃ y off, u = .cref y off
  | _, _ => False
theorem Ed.val_miss {isv : Nat → Bool} {z : Nat} {a : Ed} (haz : ¬ a.hit z) (u : T) : (a.drops isv u → a.val isv z u = .none) ∧ (¬ a.drops isv u → a.val isv z u = u) := by
  cases a with
  | put x t =>
    refine ⟨fun hp => ?_, fun hp => ?_⟩
    · simp only [Ed.val, Ed.hit, Ed.drops] at *; rw [if_neg haz, if_pos hp]
    · simp only [Ed.val, Ed.hit, Ed.drops] at *; rw [if_neg haz, if_neg hp]
  | upd y t => exact ⟨fun hp => hp.elim, fun _ => if_neg haz⟩
  | putT y t => exact ⟨fun hp => hp.elim, fun _ => if_neg haz⟩
  | noC =>
    refine ⟨fun ⟨y, off, e⟩ => by subst e; rfl, fun hp => ?_⟩
    cases u <;> first | rfl | exact absurd ⟨_, _, rfl⟩ hp
theorem Ed.drops_kills {isv : Nat → Bool} {a : Ed} {u : T} (h : a.drops isv u) : a.kills u := by
  cases a with
  | put x t => exact h.2
  | upd y t => exact h
  | putT y t => exact h
  | noC => exact h
theorem Ed.drops_box {isv : Nat → Bool} {a : Ed} {u : T} (h : a.drops isv u) : u.isBox = false := by
  cases a with
  | put x t => exact not_box h.2
  | upd y t => exact h.elim
  | putT y t => exact h.elim
  | noC => obtain ⟨y, off, rfl⟩ := h; rfl
theorem none_drops {isv : Nat → Bool} {a : Ed} : ¬ a.drops isv .none := by
  cases a <;> simp [Ed.drops, T.target]
theorem Ed.put_self {isv : Nat → Bool} {x : Nat} (t u : T) : (Ed.put x t).val isv x u = t := if_pos rfl
theorem Ed.putT_self {isv : Nat → Bool} {x : Nat} (t u : T) : (Ed.putT x t).val isv x u = t := if_pos rfl
theorem Ed.upd_self {isv : Nat → Bool} {x : Nat} (t u : T) : (Ed.upd x t).val isv x u = if u.isBox = t.isBox then t else u := if_pos rfl
theorem Ed.val_comm {isv : Nat → Bool} {n z : Nat} {a b : Ed} {rd1 rd2 wr1 wr2 : List Nat} (ga : a.Good isv n rd1) (gb : b.Good isv n rd2) (ia : a.In n wr1) (ib : b.In n wr2) (hap : Apart n rd1 wr1 rd2 wr2) (u : T) :
    a.val isv z (b.val isv z u) = b.val isv z (a.val isv z u) := by
  have hslot : a.slot n ≠ b.slot n := fun e => (hap.1 _ ia.1).2 (e ▸ ib.1)
  -- the one that hits, and the one that doesn't
  have one : ∀ {a b : Ed} {rd1 wr2 : List Nat}, a.Good isv n rd1 → b.In n wr2 → (∀ z ∈ wr2, z ∉ rd1) → a.hit z → ¬ b.hit z → ∀ u, a.val isv z (b.val isv z u) = b.val isv z (a.val isv z u) := by
    intro a b rd1 wr2 ga ib hd haz hbz u
    have hm := Ed.val_miss (isv := isv) (z := z) hbz
    have stay : ∀ t, TgIn n rd1 t → b.val isv z t = t := fun t ht => (hm t).2 fun hdr => not_kills ht ib hd (Ed.drops_kills hdr)
    cases a with
    | put x t =>
      simp only [Ed.hit] at haz
      subst haz
      rw [Ed.put_self, Ed.put_self]
      exact (stay t ga.2.1).symm
    | putT x t =>
      simp only [Ed.hit] at haz
      subst haz
      rw [Ed.putT_self, Ed.putT_self]
      exact (stay t (TgIn.plain ga.2)).symm
    | upd y t =>
      simp only [Ed.hit] at haz
      subst haz
      have ht := stay t (TgIn.plain ga.2)
      by_cases hdr : b.drops isv u
      · have hu := Ed.drops_box hdr
        rw [(hm u).1 hdr, Ed.upd_self, Ed.upd_self, hu]
        by_cases hb : false = t.isBox
        · rw [if_pos (show T.none.isBox = t.isBox from hb), if_pos hb, ht]
        · rw [if_neg (show ¬ T.none.isBox = t.isBox from hb), if_neg hb, (hm u).1 hdr]
      · rw [(hm u).2 hdr]
        simp only [Ed.val, if_true]
        split
        · exact ht.symm
        · exact ((hm u).2 hdr).symm
    | noC => exact haz.elim
  have hz : ∀ {a : Ed}, a.hit z → a.slot n = z := by intro a h; cases a <;> first | exact h | exact h.elim
  by_cases haz : a.hit z
  · have hbz : ¬ b.hit z := fun h => hslot ((hz haz).trans (hz h).symm)
    exact one ga ib (fun z hz => (hap.2 z hz).1) haz hbz u
  · by_cases hbz : b.hit z
    · exact (one gb ia (fun z hz => (hap.1 z hz).1) hbz haz u).symm
    · have hp := Ed.val_miss (isv := isv) (z := z) haz
      have hq := Ed.val_miss (isv := isv) (z := z) hbz
      by_cases h3 : a.drops isv u <;> by_cases h4 : b.drops isv u
      · rw [(hp u).1 h3, (hq u).1 h4, (hp _).2 none_drops, (hq _).2 none_drops]
      · rw [(hq u).2 h4, (hp u).1 h3, (hq _).2 none_drops]
      · rw [(hp u).2 h3, (hq u).1 h4, (hp _).2 none_drops]
      · rw [(hp u).2 h3, (hq u).2 h4, (hp u).2 h3]

theorem vals_comm1 {isv : Nat → Bool} {n z : Nat} {a : Ed} {bs : List Ed} (h : ∀ b ∈ bs, ∀ u, a.val isv z (b.val isv z u) = b.val isv z (a.val isv z u)) (u : T) : a.val isv z (vals isv z bs u) = vals isv z bs (a.val isv z u) := by
  induction bs generalizing u with
  | nil => rfl
  | cons b r ih =>
    simp only [vals]
    rw [ih (fun b hb => h b (by simp [hb])), h b (by simp)]
theorem vals_comm {isv : Nat → Bool} {n z : Nat} {as bs : List Ed} (h : ∀ a ∈ as, ∀ b ∈ bs, ∀ u, a.val isv z (b.val isv z u) = b.val isv z (a.val isv z u)) (u : T) : vals isv z as (vals isv z bs u) = vals isv z bs (vals isv z as u) := by
  induction as generalizing u with
  | nil => rfl
  | cons a r ih =>
    simp only [vals]
    rw [vals_comm1 (n := n) (h a (by simp)), ih (fun a ha => h a (by simp [ha]))]

/-! ### Alike -/
structure Eqv (s s' : S) : Prop where
  n : s'.n = s.n
  var : ∀ x, s'.isVar x = s.isVar x
  get : ∀ x, s'.get x = s.get x
/-- Alike at the slots X. -/
structure Agr (X : List Nat) (s s' : S) : Prop where
  n : s'.n = s.n
  var : ∀ x, s'.isVar x = s.isVar x
  get : ∀ x ∈ X, s'.get x = s.get x
  bx : ∀ y, s.n + 1 + y ∈ X → s.isVar y = true → (s'.get y).isBox = (s.get y).isBox
theorem Eqv.agr {s s' : S} (h : Eqv s s') (X : List Nat) : Agr X s s' := ⟨h.n, h.var, fun x _ => h.get x, fun y _ _ => by rw [h.get y]⟩
theorem Eqv.refl (s : S) : Eqv s s := ⟨rfl, fun _ => rfl, fun _ => rfl⟩
theorem Eqv.symm {s s' : S} (h : Eqv s s') : Eqv s' s := ⟨h.n.symm, fun x => (h.var x).symm, fun x => (h.get x).symm⟩
theorem Eqv.trans {s s' s2 : S} (h : Eqv s s') (k : Eqv s' s2) : Eqv s s2 := ⟨k.n.trans h.n, fun x => (k.var x).trans (h.var x), fun x => (k.get x).trans (h.get x)⟩
theorem Agr.aps {X : List Nat} {s s' : S} (h : Agr X s s') (wf : Wf s) (wf' : Wf s') {es : List Ed} {rd : List Nat} (g : ∀ e ∈ es, Ed.Good s.isVar s.n rd e) : Agr X (aps es s) (aps es s') := by
  have hv : s'.isVar = s.isVar := funext h.var
  refine ⟨by rw [aps_n, aps_n]; exact h.n, fun x => by rw [aps_isVar, aps_isVar]; exact h.var x, fun x hx => ?_, fun y hy hvy => ?_⟩
  · rw [aps_get wf g, aps_get wf' (rd := rd) (fun e he => by rw [hv, h.n]; exact g e he), hv, h.get x hx]
  · rw [aps_n] at hy
    rw [aps_isVar] at hvy
    rw [aps_get wf g, aps_get wf' (rd := rd) (fun e he => by rw [hv, h.n]; exact g e he), hv]
    exact vals_boxc (h.bx y hy hvy)
theorem Eqv.aps {s s' : S} (h : Eqv s s') (wf : Wf s) (wf' : Wf s') {es : List Ed} {rd : List Nat} (g : ∀ e ∈ es, Ed.Good s.isVar s.n rd e) : Eqv (aps es s) (aps es s') := by
  have hv : s'.isVar = s.isVar := funext h.var
  refine ⟨by rw [aps_n, aps_n]; exact h.n, fun x => by rw [aps_isVar, aps_isVar]; exact h.var x, fun x => ?_⟩
  rw [aps_get wf g, aps_get wf' (rd := rd) (fun e he => by rw [hv, h.n]; exact g e he), hv, h.get x]

/-- An operand lies in X with what it refers to. -/
def Cl (X : List Nat) (s : S) (x : Operand) : Prop := ∀ t, x = .tmp t → t ∈ X ∧ ∀ y, (s.get t).target = some y → y ∈ X
theorem ev_agr {X : List Nat} {s s' : S} (h : Agr X s s') {x : Operand} (hx : Cl X s x) : ev s' x = ev s x := by
  cases x with
  | tmp t =>
    obtain ⟨h1, h2⟩ := hx t rfl
    have ho : opd s' (.tmp t) = opd s (.tmp t) := by
      unfold opd
      simp only [h.get t h1, h.var]
    unfold ev
    simp only [ho]
    congr 1
    split
    · rename_i y hy
      refine h.get y ?_
      unfold opd at hy
      simp only at hy
      split at hy
      · split at hy
        · cases hy; exact h1
        · cases hy
      · split at hy
        · cases hy; exact h1
        · cases hy
      · exact h2 y hy
    · rfl
  | const v =>
    unfold ev
    simp only [opd, cT_target]
  | func f => rfl
  | global g => rfl

end Go.Ax

/- A quiet operation: what it reads, and that it comes to one thing. -/
set_option linter.unusedVariables false
set_option linter.unusedSimpArgs false
namespace Go.Ax
open Go

def reads (op : Op) : List Operand := op.operands.toList
def rdx (n : Nat) (s : S) (x : Operand) : List Nat :=
  match x with
  | .tmp t => t :: tfp n (s.get t)
  | _ => []
def isOwnLf : Leaf → Bool
  | .own _ _ => true
  | _ => false
def rdq (n : Nat) (op : Op) (s : S) : List Nat :=
  (reads op).flatMap (rdx n s) ++ match op with
    | .load _ a => match (ev s a).t, (ev s a).c with
      | .bref _ off, .box cells => match cells[off]? with
        | some (.own _ _) => [n]
        | _ => []
      | _, _ => []
    | _ => []

theorem rdx_cl {X : List Nat} {n : Nat} {s : S} {x : Operand} (h : ∀ z ∈ rdx n s x, z ∈ X) : Cl X s x := by
  intro t e
  subst e
  exact ⟨h t (by simp [rdx]), fun y hy => h y (by simp [rdx, tfp_target hy])⟩
theorem ev_tfp {n : Nat} {s : S} {x : Operand} {z : Nat} (h : z ∈ tfp n (ev s x).t) : z ∈ rdx n s x := by
  cases x with
  | tmp t =>
    simp only [ev, opd] at h
    simp only [rdx]
    cases e : s.get t <;> rw [e] at h <;> simp only [] at h ⊢ <;> first
      | exact List.mem_cons_of_mem _ h
      | (split at h <;> first | (simp [tfp] at h; simp [h]) | (simp [tfp] at h))
  | const v =>
    simp only [ev, opd] at h
    rw [tfp_nil (cT_target v)] at h
    cases h
  | func f => simp [ev, opd, tfp] at h
  | global g => simp [ev, opd, tfp] at h

theorem args_congr {e1 e2 : Operand → R} : ∀ {xs : List Operand}, (∀ x ∈ xs, e1 x = e2 x) → args? e1 xs = args? e2 xs
  | [], _ => rfl
  | x :: xs, h => by
    have h1 := args_congr (e1 := e1) (e2 := e2) (xs := xs) (fun y hy => h y (List.mem_cons_of_mem _ hy))
    simp only [args?, h x (by simp), h1]

theorem caps_congr {e1 e2 : Operand → R} : ∀ {xs : List Operand}, (∀ x ∈ xs, e1 x = e2 x) → capsD e1 xs = capsD e2 xs
  | [], _ => rfl
  | x :: xs, h => by
    have h1 := caps_congr (e1 := e1) (e2 := e2) (xs := xs) (fun y hy => h y (List.mem_cons_of_mem _ hy))
    simp only [capsD, h x (by simp), h1]
theorem qOp_congr {P : Program} {op : Op} {e1 e2 : Operand → R} {K : T → Prop} (h : ∀ x ∈ reads op, e1 x = e2 x) : qOp P op e1 K = qOp P op e2 K := by
  cases op <;> simp only [reads, Op.operands] at h <;> simp only [qOp]
  case move x => rw [h x (by simp)]
  case makeFunc f first caps =>
    cases f <;> simp only [qOp]
    rw [caps_congr (fun x hx => h x (by simp [hx]))]
  case pick c a b => rw [h c (by simp), h a (by simp), h b (by simp)]
  case binOp bop t x y yt => rw [h x (by simp), h y (by simp)]
  case unOp u t x => rw [h x (by simp)]
  case convert a b x => rw [h x (by simp)]
  case load t a => rw [h a (by simp)]
  case nilCheck x => rw [h x (by simp)]
  case fieldAddr st x f => rw [h x (by simp)]
  case field st x f => rw [h x (by simp)]
  case indexAddr t x i => rw [h x (by simp), h i (by simp)]
  case index t x i => rw [h x (by simp), h i (by simp)]
  case extract x j => rw [h x (by simp)]
  case slice t x lo hi mx =>
    rw [h x (by simp)]
    have g1 : ∀ y, lo = some y → e1 y = e2 y := fun y hy => h y (by simp [hy])
    have g2 : ∀ y, hi = some y → e1 y = e2 y := fun y hy => h y (by simp [hy])
    have g3 : ∀ y, mx = some y → e1 y = e2 y := fun y hy => h y (by simp [hy])
    cases lo <;> cases hi <;> cases mx <;> simp only [Option.some.injEq, forall_eq', reduceCtorEq, false_implies, implies_true] at g1 g2 g3 <;> simp only [*]
  case call c =>
    obtain ⟨callee, ⟨args⟩, argTypes⟩ := c
    have ha : ∀ x ∈ args, e1 x = e2 x := fun x hx => h x (by simp [Call.operands, hx])
    cases callee with
    | builtin b =>
      cases b <;> try rfl
      case len =>
        cases args with
        | nil => rfl
        | cons x r => cases r with
          | nil =>
            obtain ⟨tl⟩ := argTypes
            cases tl with
            | nil => rfl
            | cons t r => cases r with
              | nil => simp only [ha x (by simp)]
              | cons u r => rfl
          | cons y r => rfl
      case max => exact congrArg (fun l => match foldMM true l Option.none with | some (k, n) => K (.one (.v (.int k n))) | Option.none => False) (show args.map (fun x => match (e1 x).t with | .one d => some d | _ => Option.none) = args.map (fun x => match (e2 x).t with | .one d => some d | _ => Option.none) from List.map_congr_left fun x hx => by rw [ha x hx])
      case min => exact congrArg (fun l => match foldMM false l Option.none with | some (k, n) => K (.one (.v (.int k n))) | Option.none => False) (show args.map (fun x => match (e1 x).t with | .one d => some d | _ => Option.none) = args.map (fun x => match (e2 x).t with | .one d => some d | _ => Option.none) from List.map_congr_left fun x hx => by rw [ha x hx])
    | value f =>
      have this : (args.all fun x => (e1 x).plain) = args.all fun x => (e2 x).plain := by
        rw [Bool.eq_iff_iff, List.all_eq_true, List.all_eq_true]
        exact ⟨fun g x hx => by rw [← ha x hx]; exact g x hx, fun g x hx => by rw [ha x hx]; exact g x hx⟩
      simp only [h f (by simp [Call.operands]), args_congr ha, this]
    | invoke r m => rfl

/-- ONE RESULT. -/
def One (p : (T → Prop) → Prop) (t : T) : Prop := ∀ K' : T → Prop, K' t → p K'
theorem qMove_det {r : R} {K : T → Prop} (n : Nat) (h : qMove r K) : ∃ t, K t ∧ One (qMove r) t ∧ (∀ z ∈ tfp n t, z ∈ tfp n r.t) ∧ ∀ y, t.target = some y → r.t.target = some y := by
  unfold One qMove at *
  split at h <;> first
    | exact h.elim
    | exact ⟨_, h.2, fun K' hk => ⟨h.1, hk⟩, fun z hz => by simp [tfp] at hz, fun y hy => by cases hy⟩
    | exact ⟨_, h, fun K' hk => hk, fun z hz => by simp_all, fun y hy => by simp_all⟩
theorem qLoad_det {P : Program} {t : TypeId} {cells : List D} {K : T → Prop} (n : Nat) (h : qLoad P t cells K) : ∃ r, K r ∧ One (qLoad P t cells) r ∧ tfp n r = [] := by
  unfold One qLoad at *
  obtain ⟨h0, h⟩ := h
  split at h
  · rename_i ha
    exact ⟨_, h.2, fun K' hk => ⟨h0, by rw [if_pos ha]; exact ⟨h.1, hk⟩⟩, rfl⟩
  · rename_i ha
    split at h
    · exact ⟨_, h, fun K' hk => ⟨h0, by rw [if_neg ha]; exact hk⟩, rfl⟩
    · exact h.elim
theorem partD_det {P : Program} {t : TypeId} {ds : List D} {off : Nat} {K : T → Prop} (n : Nat) (h : partD P t ds off K) : ∃ r, K r ∧ One (partD P t ds off) r ∧ tfp n r = [] := by
  unfold One partD at *
  obtain ⟨h0, h⟩ := h
  split at h
  · rename_i ha
    exact ⟨_, h.2, fun K' hk => ⟨h0, by rw [if_pos ha]; exact ⟨h.1, hk⟩⟩, rfl⟩
  · rename_i ha
    split at h
    · rename_i d hd
      exact ⟨_, h, fun K' hk => ⟨h0, by rw [if_neg ha]; simpa [hd] using hk⟩, rfl⟩
    · exact h.elim
theorem intBin_det {op : BinOp} {k : IntKind} {a b : Int} {K : Value → Prop} (h : intBin op k a b K) : ∃ r, K r ∧ ∀ K' : Value → Prop, K' r → intBin op k a b K' := by
  cases op <;> simp only [intBin] at h ⊢ <;> first
    | exact ⟨_, h, fun _ hk => hk⟩
    | exact ⟨_, h.2, fun _ hk => ⟨h.1, hk⟩⟩
theorem binV_det {P : Program} {op : BinOp} {t : TypeId} {x y : Value} {K : Value → Prop} (h : binV P op t x y K) : ∃ r, K r ∧ ∀ K' : Value → Prop, K' r → binV P op t x y K' := by
  unfold binV at *
  split at h
  · obtain ⟨r, h1, h2⟩ := intBin_det h.2
    exact ⟨r, h1, fun K' hk => ⟨h.1, h2 K' hk⟩⟩
  · obtain ⟨h0, h⟩ := h
    cases op <;> simp only at h ⊢ <;> first
      | exact h.elim
      | exact ⟨_, h, fun _ hk => ⟨h0, hk⟩⟩
  · exact h.elim
theorem eqAgg_det {P : Program} {op : BinOp} {t : TypeId} {ds es : List D} {K : T → Prop} (n : Nat) (h : eqAgg P op t ds es K) : ∃ r, K r ∧ One (eqAgg P op t ds es) r ∧ tfp n r = [] := by
  unfold One eqAgg at *
  obtain ⟨β, h0, h⟩ := h
  cases op <;> simp only at h ⊢ <;> first
    | exact h.elim
    | exact ⟨_, h, fun _ hk => ⟨β, h0, hk⟩, rfl⟩
theorem unV_det {op : UnOp} {x : Value} {K : Value → Prop} (h : unV op x K) : ∃ r, K r ∧ ∀ K' : Value → Prop, K' r → unV op x K' := by
  unfold unV at *
  split at h <;> first
    | exact h.elim
    | exact ⟨_, h, fun _ hk => hk⟩
theorem convV_det {P : Program} {a b : TypeId} {x : Value} {K : Value → Prop} (h : convV P a b x K) : ∃ r, K r ∧ ∀ K' : Value → Prop, K' r → convV P a b x K' := by
  unfold convV at *
  obtain ⟨h0, h⟩ := h
  split at h <;> first
    | exact h.elim
    | exact ⟨_, h, fun _ hk => ⟨h0, hk⟩⟩
theorem resT_tfp (n : Nat) (cs : List Comp) : tfp n (resT cs) = [] := by
  unfold resT
  split <;> rfl

/-- Where what a value refers to comes from. -/
def Src (n : Nat) (op : Op) (s : S) (t : T) : Prop := (∀ z ∈ tfp n t, z ∈ rdq n op s) ∧ ∀ y, t.target = some y → ∃ x ∈ reads op, (ev s x).t.target = some y
theorem qOp_det {P : Program} {op : Op} {s : S} {K : T → Prop} (n : Nat) (h : qOp P op (ev s) K) : ∃ t, K t ∧ One (qOp P op (ev s)) t ∧ Src n op s t := by
  have src : ∀ {x : Operand} {t : T}, x ∈ reads op → ((∀ z ∈ tfp n t, z ∈ tfp n (ev s x).t) ∧ ∀ y, t.target = some y → (ev s x).t.target = some y) → Src n op s t := fun {x t} hx hz => by
    refine ⟨fun z h => ?_, fun y hy => ⟨x, hx, hz.2 y hy⟩⟩
    unfold rdq
    exact List.mem_append_left _ (List.mem_flatMap.2 ⟨_, hx, ev_tfp (hz.1 z h)⟩)
  have nil : ∀ {t : T}, tfp n t = [] → Src n op s t := fun {t} e => ⟨fun z hz => (by rw [e] at hz; cases hz), fun y hy => (by have := tfp_target (n := n) hy; rw [e] at this; cases this)⟩
  unfold One
  cases op <;> simp only [qOp] at h ⊢ <;> try exact h.elim
  case move x =>
    obtain ⟨t, h1, h2, h3⟩ := qMove_det n h
    exact ⟨t, h1, h2, src (x := x) (by simp [reads, Op.operands]) h3⟩
  case pick c a b =>
    split at h
    · rename_i β _
      cases β with
      | true =>
        obtain ⟨r, h1, h2, h3⟩ := qMove_det n (h.1 rfl)
        exact ⟨r, h1, fun K' hk => ⟨fun _ => h2 K' hk, fun e => by cases e⟩, src (x := a) (by simp [reads, Op.operands]) h3⟩
      | false =>
        obtain ⟨r, h1, h2, h3⟩ := qMove_det n (h.2 rfl)
        exact ⟨r, h1, fun K' hk => ⟨fun e => (by cases e), fun _ => h2 K' hk⟩, src (x := b) (by simp [reads, Op.operands]) h3⟩
    · exact h.elim
  case binOp op t x y yt =>
    split at h
    · obtain ⟨r, h1, h2⟩ := binV_det h
      exact ⟨_, h1, fun K' hk => h2 (kV K') hk, nil rfl⟩
    · obtain ⟨r, h1, h2, h3⟩ := eqAgg_det n h
      exact ⟨r, h1, h2, nil h3⟩
    · exact h.elim
  case unOp op t x =>
    split at h
    · obtain ⟨r, h1, h2⟩ := unV_det h
      exact ⟨_, h1, fun K' hk => h2 (kV K') hk, nil rfl⟩
    · exact h.elim
  case convert a b x =>
    split at h
    · obtain ⟨r, h1, h2⟩ := convV_det h
      exact ⟨_, h1, fun K' hk => h2 (kV K') hk, nil rfl⟩
    · exact h.elim
  case load t a =>
    split at h
    · obtain ⟨r, h1, h2, h3⟩ := qLoad_det n h
      exact ⟨r, h1, h2, nil h3⟩
    · obtain ⟨h0, h4, h⟩ := h
      obtain ⟨r, h1, h2, h3⟩ := qLoad_det n h
      exact ⟨r, h1, fun K' hk => ⟨h0, h4, h2 K' hk⟩, nil h3⟩
    · rename_i y off cells e1 e2
      by_cases ha : isAggT P t = true
      · simp only [if_pos ha] at h ⊢
        split at h
        · obtain ⟨r, h1, h2, h3⟩ := qLoad_det n h
          exact ⟨r, h1, h2, nil h3⟩
        · exact h.elim
      · simp only [if_neg ha] at h ⊢
        obtain ⟨h0, h⟩ := h
        split at h
        · exact ⟨_, h, fun K' hk => ⟨h0, hk⟩, nil rfl⟩
        · rename_i sz rows hc
          refine ⟨_, h, fun K' hk => ⟨h0, hk⟩, fun z hz => ?_, fun y hy => ⟨a, by simp [reads, Op.operands], by rw [e1]; exact hy⟩⟩
          simp only [tfp, List.mem_cons, List.not_mem_nil, or_false] at hz
          rcases hz with rfl | rfl
          · unfold rdq
            exact List.mem_append_left _ (List.mem_flatMap.2 ⟨a, by simp [reads, Op.operands], ev_tfp (by rw [e1]; simp [tfp])⟩)
          · unfold rdq
            refine List.mem_append_right _ ?_
            simp only [e1, e2, hc]
            simp
        · exact h.elim
    · exact h.elim
  case makeFunc f first caps =>
    cases f <;> simp only [qOp] at h ⊢ <;> try exact h.elim
    obtain ⟨h0, h⟩ := h
    split at h
    · exact ⟨_, h, fun _ hk => ⟨h0, hk⟩, nil rfl⟩
    · exact h.elim
  case nilCheck x =>
    split at h
    · rename_i y off e
      exact ⟨_, h, fun _ hk => hk, src (x := x) (by simp [reads, Op.operands]) ⟨fun z hz => (by rw [e]; exact hz), fun y hy => by rw [e]; exact hy⟩⟩
    · exact ⟨_, h, fun _ hk => hk, nil rfl⟩
    · exact h.elim
  case fieldAddr st x f =>
    split at h <;> try exact h.elim
    split at h <;> try exact h.elim
    obtain ⟨h0, h1, h⟩ := h
    split at h
    · rename_i y off e
      exact ⟨_, h, fun _ hk => ⟨h0, h1, hk⟩, src (x := x) (by simp [reads, Op.operands]) ⟨fun z hz => (by rw [e]; exact hz), fun y hy => by rw [e]; exact hy⟩⟩
    · exact ⟨_, h, fun _ hk => ⟨h0, h1, hk⟩, nil rfl⟩
    · rename_i y sz i off e
      exact ⟨_, h, fun _ hk => ⟨h0, h1, hk⟩, src (x := x) (by simp [reads, Op.operands]) ⟨fun z hz => (by rw [e]; exact hz), fun y hy => by rw [e]; exact hy⟩⟩
    · exact h.elim
  case field st x f =>
    split at h <;> try exact h.elim
    split at h <;> try exact h.elim
    obtain ⟨r, h1, h2, h3⟩ := partD_det n h
    exact ⟨r, h1, h2, nil h3⟩
  case indexAddr t x i =>
    split at h <;> try exact h.elim
    split at h <;> try exact h.elim
    · obtain ⟨h0, h⟩ := h
      split at h
      · rename_i y sz rows e _
        exact ⟨_, h.2.2.2, fun _ hk => ⟨h0, h.1, h.2.1, h.2.2.1, hk⟩, src (x := x) (by simp [reads, Op.operands]) ⟨fun z hz => (by rw [e]; exact hz), fun y hy => by rw [e]; exact hy⟩⟩
      · exact ⟨_, h.2.2.2, fun _ hk => ⟨h0, h.1, h.2.1, h.2.2.1, hk⟩, nil rfl⟩
      · exact ⟨_, h.2.2.2, fun _ hk => ⟨h0, h.1, h.2.1, h.2.2.1, hk⟩, nil rfl⟩
      · exact h.elim
    · obtain ⟨h0, h1, h2, h⟩ := h
      split at h
      · rename_i y off e
        exact ⟨_, h, fun _ hk => ⟨h0, h1, h2, hk⟩, src (x := x) (by simp [reads, Op.operands]) ⟨fun z hz => (by rw [e]; exact hz), fun y hy => by rw [e]; exact hy⟩⟩
      · exact ⟨_, h, fun _ hk => ⟨h0, h1, h2, hk⟩, nil rfl⟩
      · exact h.elim
  case index t x i =>
    split at h <;> try exact h.elim
    · obtain ⟨h0, h4, h5, h⟩ := h
      obtain ⟨r, h1, h2, h3⟩ := partD_det n h
      exact ⟨r, h1, fun K' hk => ⟨h0, h4, h5, h2 K' hk⟩, nil h3⟩
    · obtain ⟨h0, b, h1, h⟩ := h
      exact ⟨_, h, fun K' hk => ⟨h0, b, h1, hk⟩, nil rfl⟩
  case extract x j =>
    split at h <;> try exact h.elim
    split at h <;> first | exact h.elim | exact ⟨_, h, fun _ hk => hk, nil rfl⟩
  case slice t x lo hi mx =>
    split at h <;> try exact h.elim
    obtain ⟨h0, h1, l, hh, m, h2, h3, h4, h5, h6, h7⟩ := h
    exact ⟨_, h7, fun _ hk => ⟨h0, h1, l, hh, m, h2, h3, h4, h5, h6, hk⟩, nil rfl⟩
  case call c =>
    split at h <;> try exact h.elim
    · split at h <;> try exact h.elim
      split at h <;> try exact h.elim
      · split at h
        · exact ⟨_, h, fun _ hk => hk, nil rfl⟩
        · exact h.elim
      · exact ⟨_, h, fun _ hk => hk, nil rfl⟩
    · split at h
      · exact ⟨_, h, fun _ hk => hk, nil rfl⟩
      · exact h.elim
    · split at h
      · exact ⟨_, h, fun _ hk => hk, nil rfl⟩
      · exact h.elim
    · split at h <;> try exact h.elim
      · obtain ⟨h0, h1, h⟩ := h
        split at h <;> try exact h.elim
        obtain ⟨cs, h2, h3, h4⟩ := h.resolve_right id
        exact ⟨_, h4, fun _ hk => ⟨h0, h1, .inl ⟨cs, h2, h3, hk⟩⟩, nil (resT_tfp n cs)⟩
      · split at h <;> try exact h.elim
        obtain ⟨cs, h2, h3, h4⟩ := h.resolve_right id
        exact ⟨_, h4, fun _ hk => .inl ⟨cs, h2, h3, hk⟩, nil (resT_tfp n cs)⟩

end Go.Ax

/- An operation that turns more than its slot, as a list of edits. -/
set_option linter.unusedVariables false
set_option linter.unusedSimpArgs false
namespace Go.Ax
open Go

/-- Slots that an operation may take from an operand. -/
def wx (n : Nat) (s : S) (x : Operand) : List Nat :=
  match x with
  | .tmp t => match opd s (.tmp t) with
    | .own _ _ => [t]
    | .tup _ => [t]
    | .ref y => [y]
    | .bref y _ => [y]
    | .oref y _ _ _ => [y]
    | .cref y _ => [y]
    | _ => []
  | _ => []
/-- Edits: they fit, and lie in wr. -/
structure Eds (s : S) (rd wr : List Nat) (es : List Ed) : Prop where
  good : ∀ e ∈ es, Ed.Good s.isVar s.n rd e
  lie : ∀ e ∈ es, e.In s.n wr

theorem Eds.nil (s : S) (rd wr : List Nat) : Eds s rd wr [] := ⟨by simp, by simp⟩
theorem Eds.cons {s : S} {rd wr : List Nat} {e : Ed} {es : List Ed} (g : e.Good s.isVar s.n rd) (l : e.slot s.n ∈ wr) (h : Eds s rd wr es) (l2 : ∀ x t, e = .put x t → s.n + 1 + x ∈ wr := by intro _ _ hh; cases hh) : Eds s rd wr (e :: es) :=
  ⟨fun e' he => by rcases List.mem_cons.1 he with rfl | he; exact g; exact h.good e' he, fun e' he => by rcases List.mem_cons.1 he with rfl | he; exact ⟨l, l2⟩; exact h.lie e' he⟩
theorem Eds.append {s : S} {rd wr : List Nat} {es fs : List Ed} (h : Eds s rd wr es) (k : Eds s rd wr fs) : Eds s rd wr (es ++ fs) :=
  ⟨fun e he => (List.mem_append.1 he).elim (h.good e) (k.good e), fun e he => (List.mem_append.1 he).elim (h.lie e) (k.lie e)⟩
theorem Eds.mono {s : S} {rd wr rd' wr' : List Nat} {es : List Ed} (h : Eds s rd wr es) (h1 : ∀ z ∈ rd, z ∈ rd') (h2 : ∀ z ∈ wr, z ∈ wr') : Eds s rd' wr' es := by
  refine ⟨fun e he => ?_, fun e he => ⟨h2 _ (h.lie e he).1, fun x t hx => h2 _ ((h.lie e he).2 x t hx)⟩⟩
  have := h.good e he
  cases e with
  | put x t => exact ⟨this.1, this.2.1.mono h1, this.2.2⟩
  | _ => exact this
/-- A value with no target. -/
theorem Good.plain {isv : Nat → Bool} {n : Nat} {rd : List Nat} {x : Nat} {t : T} (h : t.target = none) : Ed.Good isv n rd (.put x t) := ⟨fun _ => h, TgIn.plain h, (fun y hy => by rw [h] at hy; cases hy), fun _ => h⟩
theorem Eds.wf {s s' : S} {X rd wr : List Nat} {es : List Ed} (g : Eds s rd wr es) (ha : Agr X s s') (wf' : Wf s') : Wf (aps es s') :=
  aps_wf wf' (rd := rd) fun e he => by rw [funext ha.var, ha.n]; exact g.good e he
/-- A value with no target, put. -/
theorem Eds.put {s : S} {rd wr : List Nat} {d : Nat} {t : T} (ht : t.target = none) (h1 : d ∈ wr) (h2 : s.n + 1 + d ∈ wr) : Eds s rd wr [.put d t] :=
  Eds.cons (Good.plain ht) h1 (Eds.nil _ _ _) (by intro x t' hh; cases hh; exact h2)

theorem own_tmp {s : S} {t : Nat} {sz : Nat} {rows : List (List D)} (h : (ev s (.tmp t)).t = .own sz rows) : s.get t = .own sz rows ∧ s.isVar t = false := by
  obtain ⟨u, e, h1, h2⟩ := opd_own (s := s) (x := .tmp t) h
  cases e
  exact ⟨h1, h2⟩
theorem wx_of {n : Nat} {s : S} {t y : Nat} (h : (ev s (.tmp t)).t.target = some y) : y ∈ wx n s (.tmp t) := by
  have h : (opd s (.tmp t)).target = some y := h
  simp only [wx]
  cases e : opd s (.tmp t) <;> rw [e] at h <;> simp only [T.target] at h <;> cases h <;> simp
theorem wx_own {n : Nat} {s : S} {t sz : Nat} {rows : List (List D)} (h : (ev s (.tmp t)).t = .own sz rows) : t ∈ wx n s (.tmp t) := by
  have h : opd s (.tmp t) = .own sz rows := h
  simp [wx, h]
theorem wx_tup {n : Nat} {s : S} {t : Nat} {cs : List Comp} (h : (ev s (.tmp t)).t = .tup cs) : t ∈ wx n s (.tmp t) := by
  have h : opd s (.tmp t) = .tup cs := h
  simp [wx, h]
/-- What refers to something refers to a variable. -/
def Tg (s : S) : Prop := ∀ x y, (s.get x).target = some y → s.isVar y = true
theorem ev_var {s : S} (tg : Tg s) {x : Operand} {y : Nat} (h : (ev s x).t.target = some y) : s.isVar y = true ∧ ∃ t, x = .tmp t := by
  cases x with
  | tmp t =>
    refine ⟨?_, t, rfl⟩
    simp only [ev, opd] at h
    split at h
    · split at h
      · rename_i hv; cases h; exact hv
      · cases h
    · split at h
      · rename_i hv; cases h; exact hv
      · cases h
    · exact tg t y h
  | const v => simp only [ev, opd, cT_target] at h; cases h
  | func f => cases h
  | global g => cases h

def frzR (r : R) (x : Operand) (s : S) : Option (S × Arg) :=
  match r.t, r.c with
  | .one d, _ => some (s, (false, [d]))
  | .agg ds, _ => some (s, (true, ds))
  | .own _ rows, _ => match x with
    | .tmp t => some (s.putT t (.one (.l rows)), (false, [.l rows]))
    | _ => Option.none
  | .ref y, .own _ rows => some (s.upd y (.one (.l rows)), (false, [.l rows]))
  | .ref _, .one d => some (s, (false, [d]))
  | _, _ => Option.none
theorem frz_R (s : S) (x : Operand) : frz s x = frzR (ev s x) x s := rfl
/-- Edits that fix what somebody owns. -/
def FrE (es : List Ed) : Prop := ∀ e ∈ es, ∃ y d, e = .upd y (.one d) ∨ e = .putT y (.one d)
theorem FrE.nil : FrE [] := by intro e he; cases he

theorem ev_ct {s : S} {x : Operand} {y : Nat} (h : (ev s x).t.target = some y) : (ev s x).c = s.get y := by
  have h : (opd s x).target = some y := h
  simp only [ev, h]
theorem cl_tgt {X : List Nat} {s : S} (tg : Tg s) {x : Operand} (hc : Cl X s x) {y : Nat} (e : (ev s x).t.target = some y) : y ∈ X := by
  obtain ⟨_, u, rfl⟩ := ev_var tg e
  obtain ⟨c1, c2⟩ := hc u rfl
  simp only [ev, opd] at e
  split at e
  · split at e
    · cases e; exact c1
    · cases e
  · split at e
    · cases e; exact c1
    · cases e
  · exact c2 y e
/-- It looks the same there. -/
def At (s : S) (x : Operand) (s' : S) : Prop := ∀ y, (ev s x).t.target = some y → s'.get y = s.get y
theorem at_of {X : List Nat} {s s' : S} (tg : Tg s) (ha : Agr X s s') {x : Operand} (hc : Cl X s x) : At s x s' := fun y e => ha.get y (cl_tgt tg hc e)
theorem At.refl (s : S) (x : Operand) : At s x s := fun _ _ => rfl
theorem aps_upd {s : S} {y : Nat} {t : T} (h : (s.get y).isBox = t.isBox) : aps [.upd y t] s = s.upd y t := by
  show (if (s.get y).isBox = t.isBox then s.upd y t else s) = _
  rw [if_pos h]

theorem frzR_det {s : S} (tg : Tg s) {x : Operand} {s1 : S} {A : Arg} (n : Nat) (h : frzR (ev s x) x s = some (s1, A)) : ∃ es, s1 = aps es s ∧ Eds s [] (wx n s x) es ∧ FrE es ∧ ∀ s', At s x s' → frzR (ev s x) x s' = some (aps es s', A) := by
  unfold frzR at h
  split at h
  · rename_i d e1
    cases h
    exact ⟨[], rfl, Eds.nil _ _ _, FrE.nil, fun s' _ => by unfold frzR; simp only [e1]; rfl⟩
  · rename_i ds e1
    cases h
    exact ⟨[], rfl, Eds.nil _ _ _, FrE.nil, fun s' _ => by unfold frzR; simp only [e1]; rfl⟩
  · rename_i sz rows e1
    cases x with
    | tmp t =>
      simp only [Option.some.injEq, Prod.mk.injEq] at h
      obtain ⟨rfl, rfl⟩ := h
      refine ⟨[.putT t (.one (.l rows))], rfl, Eds.cons ⟨(own_tmp e1).2, rfl⟩ (wx_own e1) (Eds.nil _ _ _), fun e he => ⟨t, _, .inr (by simpa using he)⟩, fun s' _ => by unfold frzR; simp only [e1]; rfl⟩
    | const v => cases h
    | func f => cases h
    | global g => cases h
  · rename_i y sz rows e1 e2
    cases h
    obtain ⟨hv, t, rfl⟩ := ev_var tg (x := x) (y := y) (by rw [e1]; rfl)
    have hy : s.get y = .own sz rows := by rw [← ev_ct (x := .tmp t) (by rw [e1]; rfl), e2]
    refine ⟨[.upd y (.one (.l rows))], (aps_upd (by rw [hy]; rfl)).symm, Eds.cons ⟨hv, rfl⟩ (wx_of (by rw [e1]; rfl)) (Eds.nil _ _ _), fun e he => ⟨y, _, .inl (by simpa using he)⟩, fun s' hat => by unfold frzR; simp only [e1, e2]; rw [aps_upd (by rw [hat y (by rw [e1]; rfl), hy]; rfl)]⟩
  · rename_i y d e1 e2
    cases h
    exact ⟨[], rfl, Eds.nil _ _ _, FrE.nil, fun s' _ => by unfold frzR; simp only [e1, e2]; rfl⟩
  · cases h

theorem vals_frE {isv : Nat → Bool} {z : Nat} {es : List Ed} (h : FrE es) (u : T) : vals isv z es u = u ∨ ∃ d, vals isv z es u = .one d := by
  induction es generalizing u with
  | nil => exact .inl rfl
  | cons e r ih =>
    have hr := fun u => ih (fun e he => h e (by simp [he])) u
    obtain ⟨y, d, he⟩ := h e (by simp)
    have hone : ∀ d, ∃ d', vals isv z r (.one d) = .one d' := fun d => by
      rcases hr (.one d) with k | k
      · exact ⟨d, k⟩
      · exact k
    simp only [vals]
    rcases he with rfl | rfl <;> simp only [Ed.val] <;> (repeat' split) <;> first
      | exact .inr (hone d)
      | exact hr u
theorem tg_frE {s : S} (wf : Wf s) (tg : Tg s) {es : List Ed} {rd : List Nat} (g : ∀ e ∈ es, Ed.Good s.isVar s.n rd e) (h : FrE es) : Tg (aps es s) := by
  intro x y hy
  rw [aps_isVar]
  rw [aps_get wf g] at hy
  rcases vals_frE (isv := s.isVar) (z := x) h (s.get x) with k | ⟨d, k⟩ <;> rw [k] at hy
  · exact tg x y hy
  · cases hy
theorem cl_frE {X : List Nat} {s : S} (wf : Wf s) {es : List Ed} {rd : List Nat} (g : ∀ e ∈ es, Ed.Good s.isVar s.n rd e) (h : FrE es) {x : Operand} (hc : Cl X s x) : Cl X (aps es s) x := by
  intro t e
  obtain ⟨h1, h2⟩ := hc t e
  refine ⟨h1, fun y hy => ?_⟩
  rw [aps_get wf g] at hy
  rcases vals_frE (isv := s.isVar) (z := t) h (s.get t) with k | ⟨d, k⟩ <;> rw [k] at hy
  · exact h2 y hy
  · cases hy
theorem wx_frE {s : S} (wf : Wf s) {es : List Ed} {rd : List Nat} (g : ∀ e ∈ es, Ed.Good s.isVar s.n rd e) (h : FrE es) (n : Nat) (x : Operand) : ∀ z ∈ wx n (aps es s) x, z ∈ wx n s x := by
  intro z hz
  cases x with
  | tmp t =>
    have hv : (aps es s).isVar t = s.isVar t := aps_isVar _ _ _
    rcases vals_frE (isv := s.isVar) (z := t) h (s.get t) with k | ⟨d, k⟩
    · have : opd (aps es s) (.tmp t) = opd s (.tmp t) := by
        unfold opd
        simp only [aps_get wf g, k, hv]
      simp only [wx, this] at hz ⊢
      exact hz
    · have : opd (aps es s) (.tmp t) = .one d := by
        unfold opd
        simp only [aps_get wf g, k]
      simp [wx, this] at hz
  | const v => exact hz
  | func f => exact hz
  | global g => exact hz

theorem Eds.back {s : S} {es0 es : List Ed} {rd wr : List Nat} (h : Eds (aps es0 s) rd wr es) : Eds s rd wr es := by
  refine ⟨fun e he => ?_, fun e he => ?_⟩
  · have := h.good e he
    rwa [aps_isVar', aps_n] at this
  · have := h.lie e he
    rwa [aps_n] at this

theorem frza_det {n : Nat} : ∀ {xs : List Operand} {s s1 : S} {l : List Arg}, Tg s → Wf s → frza s xs = some (s1, l) → ∃ es, s1 = aps es s ∧ Eds s [] (xs.flatMap (wx n s)) es ∧ FrE es ∧ ∀ X s', Agr X s s' → Wf s' → (∀ x ∈ xs, Cl X s x) → frza s' xs = some (aps es s', l)
  | [], s, s1, l, tg, wf, h => by
    cases h
    exact ⟨[], rfl, Eds.nil _ _ _, FrE.nil, fun X s' _ _ _ => rfl⟩
  | x :: xs, s, s1, l, tg, wf, h => by
    simp only [frza] at h
    cases h1 : frz s x with
    | none => rw [h1] at h; cases h
    | some p =>
      obtain ⟨s0, A⟩ := p
      rw [h1] at h
      simp only at h
      obtain ⟨es0, rfl, g1, g2, g3⟩ := frzR_det tg n (by rw [← frz_R]; exact h1)
      cases h2 : frza (aps es0 s) xs with
      | none => rw [h2] at h; cases h
      | some q =>
        obtain ⟨s2, l2⟩ := q
        rw [h2] at h
        cases h
        obtain ⟨es1, rfl, k1, k2, k3⟩ := frza_det (n := n) (tg_frE wf tg g1.good g2) (aps_wf wf g1.good) h2
        refine ⟨es0 ++ es1, (aps_append _ _ _).symm, Eds.append (g1.mono (by simp) (fun z hz => by simp [hz])) (k1.back.mono (by simp) fun z hz => ?_), fun e he => (List.mem_append.1 he).elim (g2 e) (k2 e), fun X s' ha wf' hc => ?_⟩
        · obtain ⟨y, hy, hz⟩ := List.mem_flatMap.1 hz
          exact List.mem_flatMap.2 ⟨y, by simp [hy], wx_frE wf g1.good g2 n y z hz⟩
        · have hv : s'.isVar = s.isVar := funext ha.var
          simp only [frza]
          rw [frz_R, ev_agr ha (hc x (by simp)), g3 s' (at_of tg ha (hc x (by simp)))]
          simp only
          rw [k3 X (aps es0 s') (ha.aps wf wf' g1.good) (aps_wf wf' (rd := []) (fun e he => by rw [hv, ha.n]; exact g1.good e he)) (fun y hy => cl_frE wf g1.good g2 (hc y (by simp [hy])))]
          simp only [aps_append]
theorem frzs_det {n : Nat} : ∀ {xs : List (Nat × Operand)} {s s1 : S} {l : List (Nat × Arg)}, Tg s → Wf s → frzs s xs = some (s1, l) → ∃ es, s1 = aps es s ∧ Eds s [] ((xs.map (·.2)).flatMap (wx n s)) es ∧ FrE es ∧ ∀ X s', Agr X s s' → Wf s' → (∀ x ∈ xs.map (·.2), Cl X s x) → frzs s' xs = some (aps es s', l)
  | [], s, s1, l, tg, wf, h => by
    cases h
    exact ⟨[], rfl, Eds.nil _ _ _, FrE.nil, fun X s' _ _ _ => rfl⟩
  | (i, x) :: xs, s, s1, l, tg, wf, h => by
    simp only [frzs] at h
    cases h1 : frz s x with
    | none => rw [h1] at h; cases h
    | some p =>
      obtain ⟨s0, A⟩ := p
      rw [h1] at h
      simp only at h
      obtain ⟨es0, rfl, g1, g2, g3⟩ := frzR_det tg n (by rw [← frz_R]; exact h1)
      cases h2 : frzs (aps es0 s) xs with
      | none => rw [h2] at h; cases h
      | some q =>
        obtain ⟨s2, l2⟩ := q
        rw [h2] at h
        cases h
        obtain ⟨es1, rfl, k1, k2, k3⟩ := frzs_det (n := n) (tg_frE wf tg g1.good g2) (aps_wf wf g1.good) h2
        refine ⟨es0 ++ es1, (aps_append _ _ _).symm, Eds.append (g1.mono (by simp) (fun z hz => by simp [hz])) (k1.back.mono (by simp) fun z hz => ?_), fun e he => (List.mem_append.1 he).elim (g2 e) (k2 e), fun X s' ha wf' hc => ?_⟩
        · obtain ⟨y, hy, hz⟩ := List.mem_flatMap.1 hz
          exact List.mem_flatMap.2 ⟨y, by simp only [List.map_cons, List.mem_cons, hy, or_true], wx_frE wf g1.good g2 n y z hz⟩
        · have hv : s'.isVar = s.isVar := funext ha.var
          simp only [frzs]
          rw [frz_R, ev_agr ha (hc x (by simp)), g3 s' (at_of tg ha (hc x (by simp)))]
          simp only
          rw [k3 X (aps es0 s') (ha.aps wf wf' g1.good) (aps_wf wf' (rd := []) (fun e he => by rw [hv, ha.n]; exact g1.good e he)) (fun y hy => cl_frE wf g1.good g2 (hc y (by simp only [List.map_cons, List.mem_cons, hy, or_true])))]
          simp only [aps_append]

end Go.Ax

/- An operation that turns more than its slot: its edits hang on its operands alone. -/
set_option linter.unusedVariables false
set_option linter.unusedSimpArgs false
namespace Go.Ax
open Go

/-- WHAT AN OPERATION DOES, AS EDITS. -/
def Det (s : S) (rd wr : List Nat) (op : Op) (p : S → (S → Prop) → Prop) (K : S → Prop) : Prop :=
  ∃ es, K (aps es s) ∧ Eds s rd wr es ∧ ∀ X s', Agr X s s' → Wf s' → (∀ x ∈ reads op, Cl X s x) → ∀ K', K' (aps es s') → p s' K'

def eMoveR (P : Program) (ty : TypeId) (d : Nat) (x : Operand) (r : R) (s : S) (K : S → Prop) : Prop :=
  match r.t with
  | .one (.l []) => match x with
    | .const (.slice Option.none 0 0) => K (s.put d (.own (strideT P ty) []))
    | _ => K (s.put d (.one (.l [])))
  | .own sz rows => match x with
    | .tmp t => K ((s.drop t).put d (.own sz rows))
    | _ => False
  | .tup cs => match x with
    | .tmp t => s.isVar t = false ∧ K ((s.drop t).put d (.tup cs))
    | _ => False
  | .el cells => K (s.put d (.el cells))
  | _ => match frzR r x s with
    | some (s', (false, [dd])) => K (s'.put d (.one dd))
    | some (s', (true, ds)) => K (s'.put d (.agg ds))
    | _ => False
theorem eMove_R (P : Program) (ty : TypeId) (d : Nat) (x : Operand) (s : S) (K : S → Prop) : eMove P ty d x s K = eMoveR P ty d x (ev s x) s K := rfl

theorem eMove_det {P : Program} {ty : TypeId} {op : Op} {d n : Nat} {x : Operand} {s : S} {K : S → Prop} (tg : Tg s) (wf : Wf s) (hop : x ∈ reads op) (h : eMove P ty d x s K) : Det s [] (d :: (s.n + 1 + d) :: wx n s x) op (eMove P ty d x) K := by
  rw [eMove_R] at h
  -- one edit
  have one : ∀ (t : T), t.target = none → K (s.put d t) → (∀ s' (K' : S → Prop), K' (s'.put d t) → eMoveR P ty d x (ev s x) s' K') → Det s [] (d :: (s.n + 1 + d) :: wx n s x) op (eMove P ty d x) K := fun t ht hk hp =>
    ⟨[.put d t], hk, Eds.put ht (by simp) (by simp), fun X s' ha wf' hc K' hk' => by
      rw [eMove_R, ev_agr ha (hc x hop)]
      exact hp s' K' hk'⟩
  have frz : (∀ s' (K' : S → Prop), eMoveR P ty d x (ev s x) s' K' = match frzR (ev s x) x s' with
      | some (s', (false, [dd])) => K' (s'.put d (.one dd))
      | some (s', (true, ds)) => K' (s'.put d (.agg ds))
      | _ => False) → Det s [] (d :: (s.n + 1 + d) :: wx n s x) op (eMove P ty d x) K := fun he => by
    rw [he] at h
    split at h
    · rename_i s1 dd e
      obtain ⟨es, rfl, g1, g2, g3⟩ := frzR_det tg n e
      refine ⟨es ++ [.put d (.one dd)], by rw [aps_append]; exact h, Eds.append (g1.mono (by simp) (by intro z hz; simp [hz])) (Eds.put rfl (by simp) (by simp)), fun X s' ha wf' hc K' hk' => ?_⟩
      rw [eMove_R, ev_agr ha (hc x hop), he, g3 s' (at_of tg ha (hc x hop))]
      rw [aps_append] at hk'
      exact hk'
    · rename_i s1 ds e
      obtain ⟨es, rfl, g1, g2, g3⟩ := frzR_det tg n e
      refine ⟨es ++ [.put d (.agg ds)], by rw [aps_append]; exact h, Eds.append (g1.mono (by simp) (by intro z hz; simp [hz])) (Eds.put rfl (by simp) (by simp)), fun X s' ha wf' hc K' hk' => ?_⟩
      rw [eMove_R, ev_agr ha (hc x hop), he, g3 s' (at_of tg ha (hc x hop))]
      rw [aps_append] at hk'
      exact hk'
    · exact h.elim
  cases e : (ev s x).t with
  | none => exact frz fun s' K' => by unfold eMoveR; simp only [e]
  | agg ds => exact frz fun s' K' => by unfold eMoveR; simp only [e]
  | box cells => exact frz fun s' K' => by unfold eMoveR; simp only [e]
  | ref y => exact frz fun s' K' => by unfold eMoveR; simp only [e]
  | bref y off => exact frz fun s' K' => by unfold eMoveR; simp only [e]
  | oref y sz i off => exact frz fun s' K' => by unfold eMoveR; simp only [e]
  | cref y off => exact frz fun s' K' => by unfold eMoveR; simp only [e]
  | el cells =>
    refine one (.el cells) rfl ?_ fun s' K' hk => ?_
    · unfold eMoveR at h; simp only [e] at h; exact h
    · unfold eMoveR; simp only [e]; exact hk
  | one D =>
    cases D with
    | v y => exact frz fun s' K' => by unfold eMoveR; simp only [e]
    | p y => exact frz fun s' K' => by unfold eMoveR; simp only [e]
    | c f y => exact frz fun s' K' => by unfold eMoveR; simp only [e]
    | l rows => cases rows with
      | cons r rs => exact frz fun s' K' => by unfold eMoveR; simp only [e]
      | nil =>
        have he : ∀ s' (K' : S → Prop), eMoveR P ty d x (ev s x) s' K' = match x with
            | .const (.slice Option.none 0 0) => K' (s'.put d (.own (strideT P ty) []))
            | _ => K' (s'.put d (.one (.l []))) := fun s' K' => by unfold eMoveR; simp only [e]
        rw [he] at h
        split at h
        · exact one _ rfl h fun s' K' hk => by rw [he]; exact hk
        · rename_i hne
          refine one (.one (.l [])) rfl h fun s' K' hk => ?_
          rw [he]
          split
          · exact (hne rfl).elim
          · exact hk
  | own sz rows =>
    unfold eMoveR at h
    simp only [e] at h
    cases x with
    | tmp t =>
      refine ⟨[.putT t .none, .put d (.own sz rows)], h, Eds.cons ⟨(own_tmp e).2, rfl⟩ (by simp [Ed.slot, wx_own e]) (Eds.put rfl (by simp) (by simp)), fun X s' ha wf' hc K' hk' => ?_⟩
      rw [eMove_R, ev_agr ha (hc _ hop)]
      unfold eMoveR; simp only [e]
      exact hk'
    | const v => exact h.elim
    | func f => exact h.elim
    | global g => exact h.elim
  | tup cs =>
    unfold eMoveR at h
    simp only [e] at h
    cases x with
    | tmp t =>
      refine ⟨[.putT t .none, .put d (.tup cs)], h.2, Eds.cons ⟨h.1, rfl⟩ (by simp [Ed.slot, wx_tup e]) (Eds.put rfl (by simp) (by simp)), fun X s' ha wf' hc K' hk' => ?_⟩
      rw [eMove_R, ev_agr ha (hc _ hop)]
      unfold eMoveR; simp only [e]
      exact ⟨(ha.var t).trans h.1, hk'⟩
    | const v => exact h.elim
    | func f => exact h.elim
    | global g => exact h.elim

/-- The one edit behind others. -/
theorem eds_put {s : S} {rd wr : List Nat} {es : List Ed} {d : Nat} {t : T} (ht : t.target = none) (h : Eds s rd wr es) (hd : d ∈ wr) (hb : s.n + 1 + d ∈ wr) : Eds s rd wr (es ++ [.put d t]) :=
  Eds.append h (Eds.put ht hd hb)

theorem eBuild_det {P : Program} {op : Op} {d n : Nat} {t : TypeId} {parts : List (Nat × Operand)} {s : S} {K : S → Prop} (tg : Tg s) (wf : Wf s) (hop : ∀ x ∈ parts.map (·.2), x ∈ reads op) (h : eBuild P d t parts s K) :
    Det s [] (d :: (s.n + 1 + d) :: (parts.map (·.2)).flatMap (wx n s)) op (eBuild P d t parts) K := by
  unfold eBuild at h
  split at h <;> try exact h.elim
  rename_i z s1 l hz hf
  obtain ⟨es, rfl, g1, g2, g3⟩ := frzs_det (n := n) tg wf hf
  have fin : ∀ ds, K ((aps es s).put d (.agg ds)) → (∀ s' (K' : S → Prop), frzs s' parts = some (aps es s', l) → K' ((aps es s').put d (.agg ds)) → eBuild P d t parts s' K') → Det s [] (d :: (s.n + 1 + d) :: (parts.map (·.2)).flatMap (wx n s)) op (eBuild P d t parts) K := fun ds hk hp =>
    ⟨es ++ [.put d (.agg ds)], by rw [aps_append]; exact hk, eds_put rfl (g1.mono (by simp) (by intro z hz; exact List.mem_cons_of_mem _ (List.mem_cons_of_mem _ hz))) (by simp) (by simp), fun X s' ha wf' hc K' hk' => by
      rw [aps_append] at hk'
      exact hp s' K' (g3 X s' ha wf' (fun x hx => hc x (hop x hx))) hk'⟩
  split at h
  · rename_i pl hpl
    split at h <;> try exact h.elim
    rename_i ds hds
    exact fin ds h fun s' K' e hk => by unfold eBuild; simp only [hz, e, hpl, hds]; exact hk
  · rename_i hpl
    split at h <;> try exact h.elim
    rename_i sz hsz
    split at h <;> try exact h.elim
    rename_i ds hds
    exact fin ds h fun s' K' e hk => by unfold eBuild; simp only [hz, e, hpl, hsz, hds]; exact hk

theorem eBuildSlice_det {P : Program} {op : Op} {d n len : Nat} {t : TypeId} {parts : List (Nat × Operand)} {s : S} {K : S → Prop} (tg : Tg s) (wf : Wf s) (hop : ∀ x ∈ parts.map (·.2), x ∈ reads op) (h : eBuildSlice P d t len parts s K) :
    Det s [] (d :: (s.n + 1 + d) :: (parts.map (·.2)).flatMap (wx n s)) op (eBuildSlice P d t len parts) K := by
  unfold eBuildSlice at h
  split at h <;> try exact h.elim
  rename_i e0 sz b0 z0 s1 l hz hf
  obtain ⟨es, rfl, g1, g2, g3⟩ := frzs_det (n := n) tg wf hf
  split at h <;> try exact h.elim
  rename_i rows hr
  obtain ⟨h1, h2, h3, h4, h5⟩ := h
  refine ⟨es ++ [.put d (.own sz rows)], by rw [aps_append]; exact h5, eds_put rfl (g1.mono (by simp) (by intro z hz; exact List.mem_cons_of_mem _ (List.mem_cons_of_mem _ hz))) (by simp) (by simp), fun X s' ha wf' hc K' hk' => ?_⟩
  rw [aps_append] at hk'
  unfold eBuildSlice
  simp only [hz, g3 X s' ha wf' (fun x hx => hc x (hop x hx)), hr]
  exact ⟨h1, h2, h3, h4, hk'⟩

def eMakeR (P : Program) (d : Nat) (t : TypeId) (l c : R) (s : S) (K : S → Prop) : Prop :=
  match elemT P t, l.t, c.t with
  | some (e, sz, bytes, z), .one (.v (.int _ n)), .one (.v (.int _ m)) => 0 < sz ∧ 0 ≤ n ∧ n ≤ m ∧ bytes * m ≤ 281474976710656 ∧ m ≤ 9223372036854775807 ∧ K (s.put d (.own sz (List.replicate n.toNat z)))
  | _, _, _ => False
theorem eMake_R (P : Program) (d : Nat) (t : TypeId) (l c : Operand) (s : S) (K : S → Prop) : eMake P d t l c s K = eMakeR P d t (ev s l) (ev s c) s K := rfl
theorem eMake_det {P : Program} {op : Op} {d : Nat} {t : TypeId} {l c : Operand} {s : S} {K : S → Prop} {wr : List Nat} (hl : l ∈ reads op) (hc : c ∈ reads op) (h : eMake P d t l c s K) :
    Det s [] (d :: (s.n + 1 + d) :: wr) op (eMake P d t l c) K := by
  rw [eMake_R] at h
  unfold eMakeR at h
  split at h <;> try exact h.elim
  rename_i e sz bytes z k1 n k2 m h1 h2 h3
  obtain ⟨a1, a2, a3, a4, a5, a6⟩ := h
  refine ⟨[.put d _], a6, Eds.put rfl (by simp) (by simp), fun X s' ha wf' hcl K' hk' => ?_⟩
  rw [eMake_R, ev_agr ha (hcl _ hl), ev_agr ha (hcl _ hc)]
  unfold eMakeR
  simp only [h1, h2, h3]
  exact ⟨a1, a2, a3, a4, a5, hk'⟩

def take1R (r : R) (s : S) (x : Operand) : Option (S × Nat × List (List D)) :=
  match r.t, r.c with
  | .ref y, .own sz rows => some (s.upd y .none, sz, rows)
  | .own sz rows, _ => match x with
    | .tmp t => some (s.drop t, sz, rows)
    | _ => Option.none
  | .cref y off, .box cells => match cells[off]? with
    | some (.own sz rows) => some (s.upd y (.box (cells.set off .hole)), sz, rows)
    | _ => Option.none
  | .one (.l []), _ => match x with
    | .const (.slice Option.none 0 0) => some (s, 0, [])
    | _ => Option.none
  | _, _ => Option.none
theorem take1_R (s : S) (x : Operand) : take1 s x = take1R (ev s x) s x := rfl
theorem take1_det {s : S} (tg : Tg s) {x : Operand} {s1 : S} {sz : Nat} {rows : List (List D)} (n : Nat) (h : take1R (ev s x) s x = some (s1, sz, rows)) :
    ∃ es, s1 = aps es s ∧ Eds s [] (wx n s x) es ∧ ∀ s', At s x s' → take1R (ev s x) s' x = some (aps es s', sz, rows) := by
  unfold take1R at h
  split at h
  · rename_i y sz' rows' e1 e2
    cases h
    obtain ⟨hv, t, rfl⟩ := ev_var tg (x := x) (y := y) (by rw [e1]; rfl)
    have hy : s.get y = .own sz rows := by rw [← ev_ct (x := .tmp t) (by rw [e1]; rfl), e2]
    exact ⟨[.upd y .none], (aps_upd (by rw [hy]; rfl)).symm, Eds.cons ⟨hv, rfl⟩ (wx_of (by rw [e1]; rfl)) (Eds.nil _ _ _), fun s' hat => by unfold take1R; simp only [e1, e2]; rw [aps_upd (by rw [hat y (by rw [e1]; rfl), hy]; rfl)]⟩
  · rename_i sz' rows' e1
    cases x with
    | tmp t =>
      cases h
      exact ⟨[.putT t .none], rfl, Eds.cons ⟨(own_tmp e1).2, rfl⟩ (wx_own e1) (Eds.nil _ _ _), fun s' _ => by unfold take1R; simp only [e1]; rfl⟩
    | const v => cases h
    | func f => cases h
    | global g => cases h
  · rename_i y off cells e1 e2
    split at h
    · rename_i sz' rows' hc
      cases h
      obtain ⟨hv, t, rfl⟩ := ev_var tg (x := x) (y := y) (by rw [e1]; rfl)
      have hy : s.get y = .box cells := by rw [← ev_ct (x := .tmp t) (by rw [e1]; rfl), e2]
      exact ⟨[.upd y (.box (cells.set off .hole))], (aps_upd (by rw [hy]; rfl)).symm, Eds.cons ⟨hv, rfl⟩ (wx_of (by rw [e1]; rfl)) (Eds.nil _ _ _), fun s' hat => by unfold take1R; simp only [e1, e2, hc]; rw [aps_upd (by rw [hat y (by rw [e1]; rfl), hy]; rfl)]⟩
    · cases h
  · rename_i e1
    split at h
    · cases h
      exact ⟨[], rfl, Eds.nil _ _ _, fun s' _ => by unfold take1R; simp only [e1]; rfl⟩
    · cases h
  · cases h

def eAppendR (P : Program) (d : Nat) (t t2 : TypeId) (x : Operand) (rx ry : R) (s : S) (K : S → Prop) : Prop :=
  t2 = t ∧ match elemT P t, take1R rx s x, ry.lst with
  | some (e, sz, bytes, z), some (s', sz', rows), some rows2 => 0 < sz ∧ (sz' = sz ∨ sz' = 0) ∧ (∀ r ∈ rows2, r.length = sz) ∧ (rows.length + rows2.length) * bytes ≤ 140737488355328 ∧ rows.length + rows2.length ≤ 140737488355328 ∧ K (s'.noC.put d (.own sz (rows ++ rows2)))
  | _, _, _ => False
theorem eAppend_R (P : Program) (d : Nat) (t t2 : TypeId) (x y : Operand) (s : S) (K : S → Prop) : eAppend P d t t2 x y s K = eAppendR P d t t2 x (ev s x) (ev s y) s K := rfl
theorem eAppend_det {P : Program} {op : Op} {d : Nat} {t t2 : TypeId} {x y : Operand} {s : S} {K : S → Prop} (tg : Tg s) (hx : x ∈ reads op) (hy : y ∈ reads op) (h : eAppend P d t t2 x y s K) :
    Det s [] (d :: (s.n + 1 + d) :: (wx s.n s x ++ [s.n])) op (eAppend P d t t2 x y) K := by
  rw [eAppend_R] at h
  unfold eAppendR at h
  obtain ⟨h0, h⟩ := h
  split at h <;> try exact h.elim
  rename_i e sz bytes z s1 sz' rows rows2 h1 h2 h3
  obtain ⟨a1, a2, a3, a4, a5, a6⟩ := h
  obtain ⟨es, rfl, g1, g2⟩ := take1_det tg s.n h2
  refine ⟨es ++ [.noC, .put d (.own sz (rows ++ rows2))], by rw [aps_append]; exact a6, Eds.append (g1.mono (by simp) (by intro z hz; simp [hz])) (Eds.cons (e := .noC) trivial (by simp [Ed.slot]) (Eds.put rfl (by simp) (by simp))), fun X s' ha wf' hcl K' hk' => ?_⟩
  rw [eAppend_R, ev_agr ha (hcl _ hx), ev_agr ha (hcl _ hy)]
  rw [aps_append] at hk'
  unfold eAppendR
  refine ⟨h0, ?_⟩
  simp only [h1, h3, g2 s' (at_of tg ha (hcl _ hx))]
  exact ⟨a1, a2, a3, a4, a5, hk'⟩

end Go.Ax

/- Each operation, as edits. -/
set_option linter.unusedVariables false
set_option linter.unusedSimpArgs false
namespace Go.Ax
open Go

def eStoreR (P : Program) (t : TypeId) (x : Operand) (ra rx : R) (s : S) (K : S → Prop) : Prop :=
  (P.info? t).isSome = true ∧ match ra.t, ra.c with
  | .bref y off, .box cells => match rx.t with
    | .own sz rows => match x with
      | .tmp z => P.cellsOf t = 1 ∧ off < cells.length ∧ K ((s.drop z).noC.upd y (.box (cells.set off (.own sz rows))))
      | _ => False
    | _ => match frzR rx x s with
      | some (s', (_, ds)) => ds.length = P.cellsOf t ∧ off + ds.length ≤ cells.length ∧ (match s'.get y with
        | .box cells' => K (s'.noC.upd y (.box (cells'.take off ++ ds.map Leaf.d ++ cells'.drop (off + ds.length))))
        | _ => False)
      | Option.none => False
  | .oref y sz i off, .own _ rows => match frzR rx x s with
    | some (s', (_, ds)) => ds.length = P.cellsOf t ∧ i < rows.length ∧ (rows.getD i (List.replicate sz (.v undef))).length = sz ∧ off + ds.length ≤ sz ∧ (match s'.get y with
      | .own sz' rows' => i < rows'.length ∧ (rows'.getD i (List.replicate sz (.v undef))).length = sz ∧ K (s'.noC.upd y (.own sz' (rows'.set i ((rows'.getD i (List.replicate sz (.v undef))).take off ++ ds ++ (rows'.getD i (List.replicate sz (.v undef))).drop (off + ds.length)))))
      | _ => False)
    | Option.none => False
  | _, _ => False
theorem eStore_R (P : Program) (t : TypeId) (a x : Operand) (s : S) (K : S → Prop) : eStore P t a x s K = eStoreR P t x (ev s a) (ev s x) s K := rfl

theorem noC_isBox {s : S} (wf : Wf s) (y : Nat) : (s.noC.get y).isBox = (s.get y).isBox := by
  have h := Ed.ap_get (e := .noC) (rd := []) wf trivial y
  rw [show s.noC.get y = Ed.val s.isVar y .noC (s.get y) from h]
  exact Ed.val_box (by intro t hh; cases hh) (by intro t hh; cases hh)
theorem aps_nu {s : S} (wf : Wf s) {y : Nat} {t : T} (h : (s.get y).isBox = t.isBox) : aps [.noC, .upd y t] s = s.noC.upd y t := by
  show aps [.upd y t] s.noC = _
  exact aps_upd (by rw [noC_isBox wf]; exact h)

theorem eStore_det {P : Program} {op : Op} {t : TypeId} {a x : Operand} {s : S} {K : S → Prop} (tg : Tg s) (wf : Wf s) (hra : a ∈ reads op) (hrx : x ∈ reads op) (h : eStore P t a x s K) :
    Det s [] (wx s.n s a ++ wx s.n s x ++ [s.n]) op (eStore P t a x) K := by
  rw [eStore_R] at h
  obtain ⟨h0, hm⟩ := id h
  have hy : ∀ y, (ev s a).t.target = some y → s.isVar y = true ∧ y ∈ wx s.n s a := fun y e => by
    obtain ⟨hv, u, rfl⟩ := ev_var tg e
    exact ⟨hv, wx_of e⟩
  have hsame : ∀ X s' y es, Agr X s s' → Wf s' → (∀ x ∈ reads op, Cl X s x) → (ev s a).t.target = some y → Eds s [] (wx s.n s x) es → (aps es s').get y = (aps es s).get y := fun X s' y es ha wf' hcl e g => by
    have hyX : y ∈ X := cl_tgt tg (hcl _ hra) (by rw [e])
    have hv : s'.isVar = s.isVar := funext ha.var
    rw [aps_get wf g.good, aps_get wf' (rd := []) (fun e he => by rw [hv, ha.n]; exact g.good e he), hv, ha.get y hyX]
  split at hm
  · rename_i y off cells e1 e2
    obtain ⟨hyv, hyw⟩ := hy y (by rw [e1]; rfl)
    have frz : (∀ s' (K' : S → Prop), eStoreR P t x (ev s a) (ev s x) s' K' = ((P.info? t).isSome = true ∧ match frzR (ev s x) x s' with
        | some (s', (_, ds)) => ds.length = P.cellsOf t ∧ off + ds.length ≤ cells.length ∧ (match s'.get y with
          | .box cells' => K' (s'.noC.upd y (.box (cells'.take off ++ ds.map Leaf.d ++ cells'.drop (off + ds.length))))
          | _ => False)
        | Option.none => False)) → Det s [] (wx s.n s a ++ wx s.n s x ++ [s.n]) op (eStore P t a x) K := fun he => by
      rw [he] at h
      obtain ⟨_, h⟩ := h
      split at h
      · rename_i s1 b ds e
        obtain ⟨es, rfl, g1, g2, g3⟩ := frzR_det tg s.n e
        obtain ⟨b1, b2, h⟩ := h
        split at h
        · rename_i cells' e3
          refine ⟨es ++ [.noC, .upd y (.box (cells'.take off ++ ds.map Leaf.d ++ cells'.drop (off + ds.length)))], by rw [aps_append, aps_nu (aps_wf wf g1.good) (by rw [e3]; rfl)]; exact h, Eds.append (g1.mono (by simp) (by intro z hz; simp [hz])) (Eds.cons (e := .noC) trivial (by simp [Ed.slot]) (Eds.cons (e := .upd y _) ⟨hyv, rfl⟩ (by simp [Ed.slot, hyw]) (Eds.nil _ _ _))), fun X s' ha wf' hcl K' hk' => ?_⟩
          have hs := hsame X s' y es ha wf' hcl (by rw [e1]; rfl) g1
          rw [eStore_R, ev_agr ha (hcl _ hra), ev_agr ha (hcl _ hrx), he, g3 s' (at_of tg ha (hcl _ hrx))]
          rw [aps_append, aps_nu (g1.wf ha wf') (by rw [hs, e3]; rfl)] at hk'
          refine ⟨h0, b1, b2, ?_⟩
          rw [hs, e3]
          exact hk'
        · exact h.elim
      · exact h.elim
    cases e : (ev s x).t with
    | own sz rows =>
      simp only [e] at hm
      cases x with
      | tmp z =>
        have hzv := (own_tmp e).2
        have hzy : z ≠ y := fun e => by rw [e, hyv] at hzv; cases hzv
        have hyb : (s.get y).isBox = true := by rw [← ev_ct (x := a) (by rw [e1]; rfl), e2]; rfl
        have hdr : ∀ s' : S, s'.isVar z = false → (s'.get y).isBox = true → Wf s' → aps [.putT z .none, .noC, .upd y (.box (cells.set off (.own sz rows)))] s' = (s'.drop z).noC.upd y (.box (cells.set off (.own sz rows))) := fun s' hv hb wf' => by
          show aps [.noC, .upd y (.box (cells.set off (.own sz rows)))] (s'.putT z .none) = _
          refine aps_nu (Ed.ap_wf (e := .putT z .none) (rd := []) wf' ⟨hv, rfl⟩) ?_
          show ((s'.putT z .none).get y).isBox = true
          rw [S.get_putT, if_neg hzy, hb]
        refine ⟨[.putT z .none, .noC, .upd y (.box (cells.set off (.own sz rows)))], by rw [hdr s hzv hyb wf]; exact hm.2.2, Eds.cons ⟨(own_tmp e).2, rfl⟩ (by simp [Ed.slot, wx_own e]) (Eds.cons (e := .noC) trivial (by simp [Ed.slot]) (Eds.cons (e := .upd y _) ⟨hyv, rfl⟩ (by simp [Ed.slot, hyw]) (Eds.nil _ _ _))), fun X s' ha wf' hcl K' hk' => ?_⟩
        rw [eStore_R, ev_agr ha (hcl _ hra), ev_agr ha (hcl _ hrx)]
        unfold eStoreR
        simp only [e1, e2, e]
        rw [hdr s' ((ha.var z).trans hzv) (by rw [at_of tg ha (hcl _ hra) y (by rw [e1]; rfl)]; exact hyb) wf'] at hk'
        exact ⟨h0, hm.1, hm.2.1, hk'⟩
      | const v => exact hm.elim
      | func f => exact hm.elim
      | global g => exact hm.elim
    | none => exact frz fun s' K' => by unfold eStoreR; simp only [e1, e2, e]
    | one d => exact frz fun s' K' => by unfold eStoreR; simp only [e1, e2, e]
    | agg ds => exact frz fun s' K' => by unfold eStoreR; simp only [e1, e2, e]
    | tup cs => exact frz fun s' K' => by unfold eStoreR; simp only [e1, e2, e]
    | box cells => exact frz fun s' K' => by unfold eStoreR; simp only [e1, e2, e]
    | ref y => exact frz fun s' K' => by unfold eStoreR; simp only [e1, e2, e]
    | bref y off => exact frz fun s' K' => by unfold eStoreR; simp only [e1, e2, e]
    | el cells => exact frz fun s' K' => by unfold eStoreR; simp only [e1, e2, e]
    | oref y sz i off => exact frz fun s' K' => by unfold eStoreR; simp only [e1, e2, e]
    | cref y off => exact frz fun s' K' => by unfold eStoreR; simp only [e1, e2, e]
  · rename_i y sz i off sz0 rows e1 e2
    obtain ⟨hyv, hyw⟩ := hy y (by rw [e1]; rfl)
    split at hm
    · rename_i s1 b ds e
      obtain ⟨es, rfl, g1, g2, g3⟩ := frzR_det tg s.n e
      obtain ⟨b1, b2, b3, b4, hm⟩ := hm
      split at hm
      · rename_i sz' rows' e3
        obtain ⟨b5, b6, hm⟩ := hm
        refine ⟨es ++ [.noC, .upd y (.own sz' (rows'.set i ((rows'.getD i (List.replicate sz (.v undef))).take off ++ ds ++ (rows'.getD i (List.replicate sz (.v undef))).drop (off + ds.length))))], by rw [aps_append, aps_nu (aps_wf wf g1.good) (by rw [e3]; rfl)]; exact hm, Eds.append (g1.mono (by simp) (by intro z hz; simp [hz])) (Eds.cons (e := .noC) trivial (by simp [Ed.slot]) (Eds.cons (e := .upd y _) ⟨hyv, rfl⟩ (by simp [Ed.slot, hyw]) (Eds.nil _ _ _))), fun X s' ha wf' hcl K' hk' => ?_⟩
        have hs := hsame X s' y es ha wf' hcl (by rw [e1]; rfl) g1
        rw [eStore_R, ev_agr ha (hcl _ hra), ev_agr ha (hcl _ hrx)]
        rw [aps_append, aps_nu (g1.wf ha wf') (by rw [hs, e3]; rfl)] at hk'
        unfold eStoreR
        simp only [e1, e2, g3 s' (at_of tg ha (hcl _ hrx))]
        refine ⟨h0, b1, b2, b3, b4, ?_⟩
        rw [hs, e3]
        exact ⟨b5, b6, hk'⟩
      · exact hm.elim
    · exact hm.elim
  · exact hm.elim

/-- May this be handed over? -/
def handed (r : R) : Bool :=
  match r.t, r.c with
  | .own _ _, _ => true
  | .ref _, .own _ _ => true
  | .cref _ _, _ => true
  | .bref _ _, _ => true
  | _, _ => false
/-- What an operation may turn, besides its slot. -/
def wop (n : Nat) (op : Op) (s : S) : List Nat :=
  (reads op).flatMap (wx n s) ++ match op with
    | .call c => match c.callee with
      | .builtin .append => [n]
      | .value _ => if c.args.toList.any (fun x => handed (ev s x)) = true then [n] else []
      | _ => []
    | .store _ _ _ => [n]
    | _ => []

theorem Det.mono {s : S} {rd wr rd' wr' : List Nat} {op : Op} {p : S → (S → Prop) → Prop} {K : S → Prop} (h : Det s rd wr op p K) (h1 : ∀ z ∈ rd, z ∈ rd') (h2 : ∀ z ∈ wr, z ∈ wr') : Det s rd' wr' op p K := by
  obtain ⟨es, k1, k2, k3⟩ := h
  exact ⟨es, k1, k2.mono h1 h2, k3⟩


/-! ### Calls that hand over -/
def XE.edT : XE → List Ed
  | .drop t => [.putT t .none]
  | .none y => [.upd y .none]
  | .hole y c => [.upd y (.box c)]
  | _ => []
def XE.edG : XE → List Leaf → List Ed
  | .bx y, o => [.upd y (.box o)]
  | _, _ => []
def takesE : List XE → List Ed
  | [] => []
  | e :: r => takesE r ++ e.edT
def givesE : List XE → List (List Leaf) → List Ed
  | [], _ => []
  | e :: r, os => givesE r os.tail ++ e.edG (os.headD [])
def XE.Fit (s : S) : XE → Prop
  | .no => True
  | .drop t => s.isVar t = false
  | .none y => s.isVar y = true ∧ (s.get y).isBox = false
  | .hole y _ => s.isVar y = true ∧ (s.get y).isBox = true
  | .bx y => s.isVar y = true ∧ (s.get y).isBox = true
  | .ln y _ _ => s.isVar y = true
theorem XE.Fit.ok {s : S} {e : XE} (h : e.Fit s) : e.Ok s := by
  cases e with
  | no => trivial
  | drop t => exact h
  | none y => exact h.1
  | hole y c => exact h.1
  | bx y => exact h.1
  | ln y _ _ => exact h
theorem wf_vt {s : S} (wf : Wf s) : Vt s := fun x hx => (wf x hx).1
theorem takes_get {s : S} (h : Vt s) : ∀ {es : List XE}, (∀ e ∈ es, e.Ok s) → ∀ z, (∀ e ∈ es, z ∉ e.slot) → (takes es s).get z = s.get z
  | [], _, z, _ => rfl
  | e :: r, ho, z, hz => by
    have hor : ∀ e ∈ r, e.Ok s := fun e he => ho e (by simp [he])
    have ih := takes_get h (es := r) hor z fun e he => hz e (by simp [he])
    have t2 := takes_vt h hor
    have he := ho e (by simp)
    have v2 := (takes_same r s).2
    have hne := hz e (by simp)
    cases e with
    | no => exact ih
    | drop t =>
      simp only [XE.slot, List.mem_singleton] at hne
      simp only [takes, XE.take, drop_get, if_neg (Ne.symm hne), ih]
    | none y =>
      simp only [XE.slot, List.mem_singleton] at hne
      have hv : s.isVar y = true := he
      simp only [takes, XE.take]
      rw [S.get_upd _ _ _ ((v2 y).trans hv) (t2 y ((v2 y).trans hv)), if_neg (Ne.symm hne), ih]
    | hole y c =>
      simp only [XE.slot, List.mem_singleton] at hne
      have hv : s.isVar y = true := he
      simp only [takes, XE.take]
      rw [S.get_upd _ _ _ ((v2 y).trans hv) (t2 y ((v2 y).trans hv)), if_neg (Ne.symm hne), ih]
    | bx y => exact ih
    | ln y _ _ => exact ih
theorem takes_box {s : S} (h : Vt s) {y : Nat} : ∀ {es : List XE}, (∀ e ∈ es, e.Ok s) → (∀ e ∈ es, ∀ z ∈ e.slot, z = y → e = .bx y) → (takes es s).get y = s.get y
  | [], _, _ => rfl
  | e :: r, ho, hz => by
    have hor : ∀ e ∈ r, e.Ok s := fun e he => ho e (by simp [he])
    have ih := takes_box h (y := y) (es := r) hor fun e he => hz e (by simp [he])
    have t2 := takes_vt h hor
    have he := ho e (by simp)
    have v2 := (takes_same r s).2
    have hh := hz e (by simp)
    cases e with
    | no => exact ih
    | drop t =>
      have hne : t ≠ y := fun e => by have := hh t (by simp [XE.slot]) e; cases this
      simp only [takes, XE.take, drop_get, if_neg hne, ih]
    | none t =>
      have hne : t ≠ y := fun e => by have := hh t (by simp [XE.slot]) e; cases this
      have hv : s.isVar t = true := he
      simp only [takes, XE.take]
      rw [S.get_upd _ _ _ ((v2 t).trans hv) (t2 t ((v2 t).trans hv)), if_neg hne, ih]
    | hole t c =>
      have hne : t ≠ y := fun e => by have := hh t (by simp [XE.slot]) e; cases this
      have hv : s.isVar t = true := he
      simp only [takes, XE.take]
      rw [S.get_upd _ _ _ ((v2 t).trans hv) (t2 t ((v2 t).trans hv)), if_neg hne, ih]
    | bx y => exact ih
    | ln y _ _ => exact ih
theorem aps_takes {s : S} (vt : Vt s) : ∀ {es : List XE}, (∀ e ∈ es, e.Fit s) → distinct (es.flatMap XE.slot) = true → aps (takesE es) s = takes es s
  | [], _, _ => rfl
  | e :: r, hf, hd => by
    obtain ⟨d1, d2⟩ := distinct_app hd
    have hfr : ∀ e ∈ r, e.Fit s := fun e he => hf e (by simp [he])
    have hor : ∀ e ∈ r, e.Ok s := fun e he => (hfr e he).ok
    have ih := aps_takes vt hfr d2
    have he := hf e (by simp)
    simp only [takesE, aps_append, ih]
    cases e with
    | no => rfl
    | drop t => rfl
    | none y => exact aps_upd (by rw [takes_get vt hor y (d1 y (by simp [XE.slot])), he.2]; rfl)
    | hole y c => exact aps_upd (by rw [takes_get vt hor y (d1 y (by simp [XE.slot])), he.2]; rfl)
    | bx y => rfl
    | ln y _ _ => rfl
theorem gives_box {s : S} (h : Vt s) {y : Nat} : ∀ {es : List XE} {os : List (List Leaf)}, (∀ e ∈ es, e.Ok s) → (s.get y).isBox = true → ((gives es os s).get y).isBox = true
  | [], _, _, hb => hb
  | e :: r, os, ho, hb => by
    have ih := gives_box h (y := y) (es := r) (os := os.tail) (fun e he => ho e (by simp [he])) hb
    have he := ho e (by simp)
    cases e with
    | bx z =>
      have hv : (gives r os.tail s).isVar z = true := ((gives_same r _ s).2 z).trans he
      simp only [gives, XE.give]
      rw [S.get_upd _ _ _ hv (gives_vt h z hv)]
      split
      · rfl
      · exact ih
    | _ => exact ih
theorem aps_gives {s : S} (vt : Vt s) : ∀ {es : List XE} {os : List (List Leaf)}, (∀ e ∈ es, e.Ok s) → (∀ y, .bx y ∈ es → (s.get y).isBox = true) → aps (givesE es os) s = gives es os s
  | [], _, _, _ => rfl
  | e :: r, os, ho, hb => by
    have hor : ∀ e ∈ r, e.Ok s := fun e he => ho e (by simp [he])
    have ih := aps_gives vt (os := os.tail) hor fun y hy => hb y (by simp [hy])
    simp only [givesE, aps_append, ih]
    cases e with
    | bx y => exact aps_upd (by rw [gives_box vt hor (hb y (by simp))]; rfl)
    | _ => rfl
/-- Which slots an argument has. -/
theorem xarg_slot {s : S} (tg : Tg s) {l : Bool} {x : Operand} {A : XA} {e : XE} (hx : xarg s l x = some (A, e)) : e.Fit s ∧ ∀ z ∈ e.slot, handed (ev s x) = true ∧ z ∈ wx s.n s x ∧ (x = .tmp z ∨ (ev s x).t.target = some z) := by
  unfold xarg at hx
  split at hx
  · cases hx; exact ⟨trivial, by simp [XE.slot]⟩
  · cases hx; exact ⟨trivial, by simp [XE.slot]⟩
  · cases hx; exact ⟨trivial, by simp [XE.slot]⟩
  · rename_i sz rows e1
    split at hx
    · cases hx
      refine ⟨(own_tmp e1).2, fun z hz => ?_⟩
      simp only [XE.slot, List.mem_singleton] at hz
      subst hz
      exact ⟨by simp [handed, e1], wx_own e1, .inl rfl⟩
    · cases hx
  · rename_i y sz rows e1 e2
    obtain ⟨hv, u, rfl⟩ := ev_var tg (x := x) (y := y) (by rw [e1]; rfl)
    split at hx
    · cases hx
      refine ⟨hv, fun z hz => ?_⟩
      simp only [XE.slot, List.mem_singleton] at hz
      subst hz
      exact ⟨by simp [handed, e1, e2], wx_of (by rw [e1]; rfl), .inr (by rw [e1]; rfl)⟩
    · cases hx
      refine ⟨⟨hv, by rw [← ev_ct (x := .tmp u) (by rw [e1]; rfl), e2]; rfl⟩, fun z hz => ?_⟩
      simp only [XE.slot, List.mem_singleton] at hz
      subst hz
      exact ⟨by simp [handed, e1, e2], wx_of (by rw [e1]; rfl), .inr (by rw [e1]; rfl)⟩
  · cases hx; exact ⟨trivial, by simp [XE.slot]⟩
  · rename_i y off cells e1 e2
    split at hx
    · cases hx
      obtain ⟨hv, u, rfl⟩ := ev_var tg (x := x) (y := y) (by rw [e1]; rfl)
      refine ⟨⟨hv, by rw [← ev_ct (x := .tmp u) (by rw [e1]; rfl), e2]; rfl⟩, fun z hz => ?_⟩
      simp only [XE.slot, List.mem_singleton] at hz
      subst hz
      exact ⟨by simp [handed, e1], wx_of (by rw [e1]; rfl), .inr (by rw [e1]; rfl)⟩
    · cases hx
  · rename_i y cells e1 e2
    cases hx
    obtain ⟨hv, u, rfl⟩ := ev_var tg (x := x) (y := y) (by rw [e1]; rfl)
    refine ⟨⟨hv, by rw [← ev_ct (x := .tmp u) (by rw [e1]; rfl), e2]; rfl⟩, fun z hz => ?_⟩
    simp only [XE.slot, List.mem_singleton] at hz
    subst hz
    exact ⟨by simp [handed, e1], wx_of (by rw [e1]; rfl), .inr (by rw [e1]; rfl)⟩
  · cases hx
theorem xargs_slot {s : S} (tg : Tg s) : ∀ {ls : List Bool} {xs : List Operand} {as : List XA} {es : List XE}, xargs s ls xs = some (as, es) → ∀ e ∈ es, e.Fit s ∧ ∀ z ∈ e.slot, ∃ x ∈ xs, handed (ev s x) = true ∧ z ∈ wx s.n s x ∧ (x = .tmp z ∨ (ev s x).t.target = some z)
  | ls, [], as, es, h, e, he => by
    simp only [xargs, Option.some.injEq, Prod.mk.injEq] at h
    obtain ⟨rfl, rfl⟩ := h
    cases he
  | ls, x :: r, as, es, h, e, he => by
    simp only [xargs] at h
    split at h <;> try cases h
    rename_i A e' as es e1 e2
    rcases List.mem_cons.1 he with rfl | he
    · obtain ⟨g1, g2⟩ := xarg_slot tg e1
      exact ⟨g1, fun z hz => ⟨x, by simp, g2 z hz⟩⟩
    · obtain ⟨g1, g2⟩ := xargs_slot tg e2 e he
      exact ⟨g1, fun z hz => by
        obtain ⟨y, hy, h⟩ := g2 z hz
        exact ⟨y, by simp [hy], h⟩⟩
theorem xarg_ev {s s' : S} {l : Bool} {x : Operand} (h : ev s' x = ev s x) : xarg s' l x = xarg s l x := by
  unfold xarg
  rw [h]
theorem xargs_ev {s s' : S} : ∀ {ls : List Bool} {xs : List Operand}, (∀ x ∈ xs, ev s' x = ev s x) → xargs s' ls xs = xargs s ls xs
  | _, [], _ => rfl
  | _, x :: r, h => by
    simp only [xargs]
    rw [xarg_ev (h x (by simp)), xargs_ev fun y hy => h y (by simp [hy])]
theorem mem_takesE {ed : Ed} : ∀ {es : List XE}, ed ∈ takesE es → ∃ e ∈ es, ed ∈ e.edT
  | e :: r, h => by
    rcases List.mem_append.1 h with h | h
    · obtain ⟨e', he, h⟩ := mem_takesE h
      exact ⟨e', by simp [he], h⟩
    · exact ⟨e, by simp, h⟩
theorem mem_givesE {ed : Ed} : ∀ {es : List XE} {os : List (List Leaf)}, ed ∈ givesE es os → ∃ y o, .bx y ∈ es ∧ ed = .upd y (.box o)
  | e :: r, os, h => by
    rcases List.mem_append.1 h with h | h
    · obtain ⟨y, o, he, h⟩ := mem_givesE h
      exact ⟨y, o, by simp [he], h⟩
    · cases e with
      | bx y => simp only [XE.edG, List.mem_singleton] at h; exact ⟨y, _, by simp, h⟩
      | _ => simp [XE.edG] at h

theorem noC_vt {s : S} (h : Vt s) : Vt s.noC := fun x hx => by
  have : look s.ts x = none := h x hx
  simp [S.noC, look_noC, this]
theorem fit_noC {s : S} (wf : Wf s) {e : XE} (h : e.Fit s) : e.Fit s.noC := by
  cases e with
  | no => trivial
  | drop t => exact h
  | none y => exact ⟨h.1, (noC_isBox wf y).trans h.2⟩
  | hole y c => exact ⟨h.1, (noC_isBox wf y).trans h.2⟩
  | bx y => exact ⟨h.1, (noC_isBox wf y).trans h.2⟩
  | ln y _ _ => exact h
theorem aps_x {s : S} (wf : Wf s) {es : List XE} (hf : ∀ e ∈ es, e.Fit s) (hd : distinct (es.flatMap XE.slot) = true) (os : List (List Leaf)) (d : Nat) (cs : List Comp) :
    aps (.noC :: takesE es ++ givesE es os ++ [.put d (resT cs)]) s = xState es os d cs s := by
  have vt := noC_vt (wf_vt wf)
  have hf' : ∀ e ∈ es, e.Fit s.noC := fun e he => fit_noC wf (hf e he)
  have hok : ∀ e ∈ es, e.Ok s.noC := fun e he => (hf' e he).ok
  have ht : aps (takesE es) s.noC = takes es s.noC := aps_takes vt hf' hd
  have hbx : ∀ y, .bx y ∈ es → ((takes es s.noC).get y).isBox = true := fun y hy => by
    rw [takes_box vt hok fun e he z hz hzy => ?_]
    · exact (hf' _ hy).2
    · subst hzy
      have : ∀ {es : List XE}, distinct (es.flatMap XE.slot) = true → .bx z ∈ es → e ∈ es → z ∈ e.slot → e = .bx z := by
        intro es
        induction es with
        | nil => intro _ h; cases h
        | cons a r ih =>
          intro hd h1 h2 h3
          obtain ⟨d1, d2⟩ := distinct_app hd
          rcases List.mem_cons.1 h1 with rfl | h1
          · rcases List.mem_cons.1 h2 with rfl | h2
            · rfl
            · exact absurd h3 (d1 z (by simp [XE.slot]) e h2)
          · have h1' := h1
            rcases List.mem_cons.1 h2 with rfl | h2
            ·
              exact absurd (List.mem_singleton.2 rfl : z ∈ (XE.bx z).slot) (d1 z h3 _ h1')
            · exact ih d2 h1 h2 h3
      exact this hd hy he hz
  have hg : aps (givesE es os) (takes es s.noC) = gives es os (takes es s.noC) := aps_gives (takes_vt vt hok) (fun e he => (hok e he).iff (takes_same es _).2) hbx
  simp only [aps, Ed.ap, List.cons_append, aps_append]
  rw [ht, hg]
  rfl
theorem xCall_det {P : Program} {op : Op} {g : FuncId} {args : List Operand} {d : Nat} {s : S} {K : S → Prop} {wr : List Nat} (tg : Tg s) (wf : Wf s) (h : xCall P g args d s K) (hargs : ∀ x ∈ args, x ∈ reads op) (hd : d ∈ wr) (hd2 : s.n + 1 + d ∈ wr)
    (hn : args.any (fun x => handed (ev s x)) = true → s.n ∈ wr) (hwx : ∀ x ∈ args, ∀ z ∈ wx s.n s x, z ∈ wr) : Det s [] wr op (fun s K => xCall P g args d s K) K := by
  obtain ⟨ls, xs, es, os, cs, hx, hhot, hdist, hspec, hK⟩ := h
  have hs := xargs_slot tg hx
  have hfit : ∀ e ∈ es, e.Fit s := fun e he => (hs e he).1
  have hwr : ∀ e ∈ es, ∀ z ∈ e.slot, z ∈ wr := fun e he z hz => by
    obtain ⟨x, h1, _, h2, _⟩ := (hs e he).2 z hz
    exact hwx x h1 z h2
  have hnw : s.n ∈ wr := by
    obtain ⟨e, he, hh⟩ := List.any_eq_true.1 hhot
    have : ∃ z, z ∈ e.slot := by cases e <;> first | (simp [XE.hot] at hh; done) | exact ⟨_, List.mem_singleton.2 rfl⟩
    obtain ⟨z, hz⟩ := this
    obtain ⟨x, h1, h2, _⟩ := (hs e he).2 z hz
    exact hn (List.any_eq_true.2 ⟨x, h1, h2⟩)
  refine ⟨.noC :: takesE es ++ givesE es os ++ [.put d (resT cs)], by rw [aps_x wf hfit hdist]; exact hK, ?_, fun X s' ha wf' hc K' hk' => ?_⟩
  · refine eds_put (resT_target cs) ⟨fun ed hed => ?_, fun ed hed => ?_⟩ hd hd2
    · rcases List.mem_append.1 hed with hed | hed
      · rcases List.mem_cons.1 hed with rfl | hed
        · trivial
        · obtain ⟨e, he, h⟩ := mem_takesE hed
          have := hfit e he
          cases e with
          | drop t => simp only [XE.edT, List.mem_singleton] at h; subst h; exact ⟨this, rfl⟩
          | none y => simp only [XE.edT, List.mem_singleton] at h; subst h; exact ⟨this.1, rfl⟩
          | hole y c => simp only [XE.edT, List.mem_singleton] at h; subst h; exact ⟨this.1, rfl⟩
          | _ => simp [XE.edT] at h
      · obtain ⟨y, o, he, rfl⟩ := mem_givesE hed
        exact ⟨(hfit _ he).1, rfl⟩
    · rcases List.mem_append.1 hed with hed | hed
      · rcases List.mem_cons.1 hed with rfl | hed
        · exact ⟨hnw, by intro x t h; cases h⟩
        · obtain ⟨e, he, h⟩ := mem_takesE hed
          have := hwr e he
          cases e with
          | drop t => simp only [XE.edT, List.mem_singleton] at h; subst h; exact ⟨this t (by simp [XE.slot]), by intro x t h; cases h⟩
          | none y => simp only [XE.edT, List.mem_singleton] at h; subst h; exact ⟨this y (by simp [XE.slot]), by intro x t h; cases h⟩
          | hole y c => simp only [XE.edT, List.mem_singleton] at h; subst h; exact ⟨this y (by simp [XE.slot]), by intro x t h; cases h⟩
          | _ => simp [XE.edT] at h
      · obtain ⟨y, o, he, rfl⟩ := mem_givesE hed
        exact ⟨hwr _ he y (by simp [XE.slot]), by intro x t h; cases h⟩
  · have hev : ∀ x ∈ args, ev s' x = ev s x := fun x hx => ev_agr ha (hc x (hargs x hx))
    have tg' : ∀ e ∈ es, e.Fit s' := fun e he => by
      have hsl : ∀ z ∈ e.slot, s'.get z = s.get z := fun z hz => by
        obtain ⟨x, h1, _, _, h2⟩ := (hs e he).2 z hz
        rcases h2 with rfl | h2
        · exact ha.get z (hc _ (hargs _ h1) z rfl).1
        · exact ha.get z (cl_tgt tg (hc _ (hargs _ h1)) h2)
      have := hfit e he
      cases e with
      | no => trivial
      | drop t => exact (ha.var t).trans this
      | none y => exact ⟨(ha.var y).trans this.1, by rw [hsl y (by simp [XE.slot])]; exact this.2⟩
      | hole y c => exact ⟨(ha.var y).trans this.1, by rw [hsl y (by simp [XE.slot])]; exact this.2⟩
      | bx y => exact ⟨(ha.var y).trans this.1, by rw [hsl y (by simp [XE.slot])]; exact this.2⟩
      | ln y _ _ => exact (ha.var y).trans this
    rw [aps_x wf' tg' hdist] at hk'
    exact ⟨ls, xs, es, os, cs, (xargs_ev hev).trans hx, hhot, hdist, hspec, hk'⟩

theorem eOp_det {P : Program} {ty : TypeId} {op : Op} {d : Nat} {s : S} {K : S → Prop} (tg : Tg s) (wf : Wf s) (h : eOp P ty op d s K) : Det s [] (d :: (s.n + 1 + d) :: wop s.n op s) op (eOp P ty op d) K := by
  have sub : ∀ {x z}, x ∈ reads op → z ∈ wx s.n s x → z ∈ d :: (s.n + 1 + d) :: wop s.n op s := fun hx hz => List.mem_cons_of_mem _ (List.mem_cons_of_mem _ (List.mem_append_left _ (List.mem_flatMap.2 ⟨_, hx, hz⟩)))
  cases op <;> simp only [eOp] at h <;> try exact h.elim
  case move x => exact (eMove_det (n := s.n) tg wf (by simp [reads, Op.operands]) h).mono (by simp) (fun z hz => by
    rcases List.mem_cons.1 hz with rfl | hz
    · simp
    rcases List.mem_cons.1 hz with rfl | hz
    · simp
    exact sub (x := x) (by simp [reads, Op.operands]) hz)
  case assign x => exact (eMove_det (n := s.n) tg wf (by simp [reads, Op.operands]) h).mono (by simp) (fun z hz => by
    rcases List.mem_cons.1 hz with rfl | hz
    · simp
    rcases List.mem_cons.1 hz with rfl | hz
    · simp
    exact sub (x := x) (by simp [reads, Op.operands]) hz)
  case alloc e =>
    split at h <;> try exact h.elim
    rename_i cells hz
    exact ⟨[.put d (.box cells)], h, Eds.put rfl (by simp) (by simp), fun X s' ha wf' hc K' hk' => by simp only [eOp, hz]; exact hk'⟩
  case box e x =>
    split at h <;> try exact h.elim
    rename_i s1 g ds hf
    obtain ⟨es, rfl, g1, g2, g3⟩ := frzR_det tg s.n (by rw [← frz_R]; exact hf)
    refine ⟨es ++ [.put d (.box (ds.map Leaf.d))], by rw [aps_append]; exact h, eds_put rfl (g1.mono (by simp) fun z hz => sub (x := x) (by simp [reads, Op.operands]) hz) (by simp) (by simp), fun X s' ha wf' hc K' hk' => ?_⟩
    rw [aps_append] at hk'
    simp only [eOp]
    rw [frz_R, ev_agr ha (hc x (by simp [reads, Op.operands])), g3 s' (at_of tg ha (hc x (by simp [reads, Op.operands])))]
    exact hk'
  case build t parts =>
    exact (eBuild_det (n := s.n) tg wf (fun x hx => by simpa [reads, Op.operands] using hx) h).mono (by simp) (fun z hz => by
      rcases List.mem_cons.1 hz with rfl | hz
      · simp
      rcases List.mem_cons.1 hz with rfl | hz
      · simp
      · obtain ⟨x, hx, hz⟩ := List.mem_flatMap.1 hz
        exact sub (x := x) (by simpa [reads, Op.operands] using hx) hz)
  case buildSlice t len parts =>
    exact (eBuildSlice_det (n := s.n) tg wf (fun x hx => by simpa [reads, Op.operands] using hx) h).mono (by simp) (fun z hz => by
      rcases List.mem_cons.1 hz with rfl | hz
      · simp
      rcases List.mem_cons.1 hz with rfl | hz
      · simp
      · obtain ⟨x, hx, hz⟩ := List.mem_flatMap.1 hz
        exact sub (x := x) (by simpa [reads, Op.operands] using hx) hz)
  case makeSlice t l c => exact eMake_det (by simp [reads, Op.operands]) (by simp [reads, Op.operands]) h
  case extract x j =>
    split at h <;> try exact h.elim
    rename_i t cs e1
    obtain ⟨hv, htn, h⟩ := h
    split at h <;> try exact h.elim
    rename_i sz rows hj
    refine ⟨[.putT t (.tup (cs.set j (.one .hole))), .put d (.own sz rows)], h, Eds.cons ⟨hv, rfl⟩ (sub (x := .tmp t) (by simp [reads, Op.operands]) (wx_tup e1)) (Eds.put rfl (by simp) (by simp)), fun X s' ha wf' hc K' hk' => ?_⟩
    simp only [eOp]
    rw [ev_agr ha (hc _ (by simp [reads, Op.operands]))]
    simp only [e1, hj]
    exact ⟨(ha.var t).trans hv, by rw [ha.n]; exact htn, hk'⟩
  case call c =>
    have hargs : ∀ x ∈ c.args.toList, x ∈ reads (.call c) := fun x hx => by
      simp only [reads, Op.operands, Call.operands]
      cases hc : c.callee <;> simp_all
    split at h <;> try exact h.elim
    · rename_i hcal
      split at h <;> try exact h.elim
      rename_i x y t t2 hx ht
      have hxr : x ∈ reads (.call c) := hargs x (by rw [hx]; simp)
      obtain ⟨es, k1, k2, k3⟩ := eAppend_det (op := .call c) tg (x := x) (y := y) hxr (hargs y (by rw [hx]; simp)) h
      refine ⟨es, k1, k2.mono (by simp) (fun z hz => ?_), fun X s' ha wf' hc K' hk' => ?_⟩
      · rcases List.mem_cons.1 hz with rfl | hz
        · simp
        rcases List.mem_cons.1 hz with rfl | hz
        · simp
        · rcases List.mem_append.1 hz with hz | hz
          · exact sub hxr hz
          · exact List.mem_cons_of_mem _ (List.mem_cons_of_mem _ (List.mem_append_right _ (by simpa [hcal] using hz)))
      · have := k3 X s' ha wf' hc K' hk'
        simp only [eOp, hcal, hx, ht]
        exact this
    · rename_i f hcal
      have hfr : f ∈ reads (.call c) := by simp [reads, Op.operands, Call.operands, hcal]
      split at h <;> try exact h.elim
      rename_i g first captured e1
      obtain ⟨rfl, rfl, h⟩ := h
      have xdet : xCall P g c.args.toList d s K → Det s [] (d :: (s.n + 1 + d) :: wop s.n (.call c) s) (.call c) (fun s K => xCall P g c.args.toList d s K) K := fun h =>
        xCall_det (op := .call c) tg wf h hargs (by simp) (by simp) (fun hh => List.mem_cons_of_mem _ (List.mem_cons_of_mem _ (List.mem_append_right _ (by simp only [hcal]; rw [if_pos hh]; simp)))) (fun x hx z hz => sub (hargs x hx) hz)
      split at h
      rotate_left
      · rename_i hno
        obtain ⟨es, k1, k2, k3⟩ := xdet h
        refine ⟨es, k1, k2, fun X s' ha wf' hc K' hk' => ?_⟩
        have := k3 X s' ha wf' hc K' hk'
        have ea : args? (ev s') c.args.toList = args? (ev s) c.args.toList := args_congr (fun x hx => ev_agr ha (hc x (hargs x hx)))
        simp only [eOp, hcal]
        rw [ev_agr ha (hc f hfr)]
        rw [hno] at ea
        simp only [e1, ea]
        exact ⟨trivial, trivial, this⟩
      rename_i as e2
      split at h <;> try exact h.elim
      rename_i s1 as' e3
      obtain ⟨rfl, h⟩ := h
      rcases h with h | h
      rotate_left
      · obtain ⟨es', k1, k2, k3⟩ := xdet h
        obtain ⟨es, rfl, g1, g2, g3⟩ := frza_det (n := s.n) tg wf e3
        refine ⟨es', k1, k2, fun X s' ha wf' hc K' hk' => ?_⟩
        have := k3 X s' ha wf' hc K' hk'
        have ea : args? (ev s') c.args.toList = some as' := by rw [args_congr (fun x hx => ev_agr ha (hc x (hargs x hx)))]; exact e2
        simp only [eOp, hcal]
        rw [ev_agr ha (hc f hfr)]
        simp only [e1, ea, g3 X s' ha wf' (fun x hx => hc x (hargs x hx))]
        exact ⟨trivial, trivial, trivial, .inr this⟩
      obtain ⟨cs, hs, h⟩ := h
      obtain ⟨es, rfl, g1, g2, g3⟩ := frza_det (n := s.n) tg wf e3
      have hgo : ∀ X s', Agr X s s' → Wf s' → (∀ x ∈ reads (.call c), Cl X s x) → ∀ K' : S → Prop, kFrz s' (aps es s') d K' cs → eOp P ty (.call c) d s' K' := fun X s' ha wf' hc K' hk => by
        have ea : args? (ev s') c.args.toList = some as' := by rw [args_congr (fun x hx => ev_agr ha (hc x (hargs x hx)))]; exact e2
        simp only [eOp, hcal]
        rw [ev_agr ha (hc f hfr)]
        simp only [e1, ea, g3 X s' ha wf' (fun x hx => hc x (hargs x hx))]
        exact ⟨trivial, trivial, trivial, .inl ⟨cs, hs, hk⟩⟩
      unfold kFrz at h
      by_cases hfl : cs.all Comp.flat = true
      · rw [if_pos hfl] at h
        refine ⟨[.put d (resT cs)], h, Eds.put (resT_target cs) (by simp) (by simp), fun X s' ha wf' hc K' hk' => hgo X s' ha wf' hc K' ?_⟩
        unfold kFrz
        rw [if_pos hfl]
        exact hk'
      · rw [if_neg hfl] at h
        refine ⟨es ++ [.put d (resT cs)], by rw [aps_append]; exact h, eds_put (resT_target cs) (g1.mono (by simp) fun z hz => ?_) (by simp) (by simp), fun X s' ha wf' hc K' hk' => hgo X s' ha wf' hc K' ?_⟩
        · obtain ⟨x, hx, hz⟩ := List.mem_flatMap.1 hz
          exact sub (hargs x hx) hz
        · unfold kFrz
          rw [if_neg hfl]
          rw [aps_append] at hk'
          exact hk'

end Go.Ax
