/- Steps of memory and of ownership. -/
import Derived.Test.YtmpbhgofllbejaaLibA
import Derived.Maps.AppendAt
import Derived.Laws.CopyRow
set_option linter.unusedVariables false
set_option linter.unusedSimpArgs false
set_option linter.unusedVariables false
set_option linter.unusedSimpArgs false
namespace Go.Ax
open Go

section
variable {w0 w w' : World} {ext I : Nat → Prop} {s : S} {ts : Array Value}

/-- More blocks count as ones that nobody writes: new ones. -/
theorem Inv.widen (h : Inv w0 ext I s ts w) {I2 : Nat → Prop} (h1 : ∀ b, I b → I2 b) (h2 : ∀ b, I2 b → b < w.heap.size) (h3 : ∀ x i b, (s.get x).blocks w (val ts x) i = some b → ¬ I2 b) : Inv w0 ext I2 s ts w :=
  ⟨h.size, fun x => RepV.mono (fun _ _ => rfl) h1 (fun _ _ _ => rfl) (fun _ _ _ _ _ => rfl) (h.rep x), h.inj, fun x i b e => ⟨h3 x i b e, (h.away x i b e).2⟩, h2, h.tgt, h.vtgt, h.fr⟩

/-- No slot knows a cell's own list. -/
def noC : List (Nat × T) → List (Nat × T)
  | [] => []
  | (k, t) :: r => (k, match t with | .cref _ _ => T.none | u => u) :: noC r
theorem look_noC (l : List (Nat × T)) (y : Nat) : look (noC l) y = (look l y).map fun t => match t with | .cref _ _ => T.none | u => u := by
  induction l with
  | nil => simp [look, noC]
  | cons p l ih =>
    obtain ⟨k, u⟩ := p
    simp only [noC, look, ih]
    split <;> simp
def S.noC (s : S) : S := { s with ts := Ax.noC s.ts }
theorem S.get_noC (s : S) (x : Nat) : s.noC.get x = s.get x ∨ s.noC.get x = .none := by
  unfold S.get S.noC
  simp only [look_noC]
  cases look s.ts x with
  | none => left; rfl
  | some t => cases t <;> first | (left; rfl) | (right; rfl)
theorem Inv.noC (h : Inv w0 ext I s ts w) : Inv w0 ext I s.noC ts w := by
  refine h.weaken rfl (S.get_noC s) (fun _ => rfl) (fun x hx => ?_)
  simp only [S.noC, look_noC, (h.vtgt x hx).1, Option.map_none]
theorem S.noC_cref (s : S) (hv : ∀ x, s.isVar x = true → (s.get x).target = none) (x y off : Nat) : s.noC.get x ≠ .cref y off := by
  intro e
  unfold S.get S.noC at e
  simp only [look_noC] at e
  cases hl : look s.ts x with
  | some t => rw [hl] at e; cases t <;> cases e
  | none =>
    rw [hl] at e
    simp only [Option.map_none, Option.getD_none] at e
    cases hu : look s.vs x with
    | none => rw [hu] at e; cases e
    | some u =>
      have := hv x (by simp [S.isVar, hu])
      rw [hu] at e
      simp only [Option.getD_some] at e
      unfold S.get at this
      rw [hl, hu] at this
      simp only [Option.getD_none, Option.getD_some] at this
      rw [e] at this
      cases this

/-- A block that nobody owns and that isn't fixed may turn. -/
theorem Inv.free (h : Inv w0 ext I s ts w) {b : Nat} (hI : ¬ I b) (hb : ∀ x i, (s.get x).blocks w (val ts x) i ≠ some b) (hnew : w0.heap.size ≤ b ∨ ext b) (hnc : ∀ x y off, s.get x ≠ .cref y off)
    (hw : Fr (fun i => i = b) w w') : Inv w0 ext I s ts w' := by
  have hk : ∀ b', b' < w.heap.size → b' ≠ b → w'.heap[b']? = w.heap[b']? := fun b' h1 h2 => hw.block b' h1 h2
  have hne : ∀ x i b', (s.get x).blocks w (val ts x) i = some b' → w'.heap[b']? = w.heap[b']? := fun x i b' e => hk b' (h.away x i b' e).2.1 (fun e2 => hb x i (by rw [e, e2]))
  have hbl : ∀ x i, (s.get x).blocks w' (val ts x) i = (s.get x).blocks w (val ts x) i := fun x i => T.blocks_world (fun b' e => hne x 0 b' e) i
  refine ⟨h.size, fun x => ?_, fun x i y j b e1 e2 => ?_, fun x i b e => ?_, fun b e => Nat.lt_of_lt_of_le (h.Ilt b e) hw.size, h.tgt, h.vtgt, h.fr.trans (hw.mono fun i _ e => by subst e; rcases hnew with h | h; exact .inr h; exact .inl h)⟩
  · refine RepV.mono (fun b' e => hk b' (h.Ilt b' e) (fun e2 => hI (by rw [← e2]; exact e))) (fun _ e => e) (fun i b' e => hne x i b' e) (fun y off b' e1 e2 => absurd e1 (hnc x y off)) (h.rep x)
  · rw [hbl] at e1 e2
    exact h.inj x i y j b e1 e2
  · rw [hbl] at e
    obtain ⟨e1, e2, e3⟩ := h.away x i b e
    exact ⟨e1, Nat.lt_of_lt_of_le e2 hw.size, e3⟩

/-- A variable is told anew, its value being what it was. -/
theorem Inv.upd (h : Inv w0 ext I s ts w) {y : Nat} (hv : s.isVar y = true) {t : T} (hrep : RepV w I (val ts) (val ts y) t) (htg : t.target = none)
    (hown : ∀ i b, t.blocks w (val ts y) i = some b → ¬ I b ∧ b < w.heap.size ∧ Mine w0 ext b ∧ ∀ x j, x ≠ y → (s.get x).blocks w (val ts x) j ≠ some b)
    (hinj : ∀ i j b, t.blocks w (val ts y) i = some b → t.blocks w (val ts y) j = some b → i = j) : Inv w0 ext I (s.upd y t) ts w := by
  have hget := S.get_upd s y t hv (h.vtgt y hv).1
  refine ⟨h.size, fun x => ?_, fun x i z j b e1 e2 => ?_, fun x i b e => ?_, h.Ilt, fun x z e => ?_, fun x e => ?_, h.fr⟩
  · show RepV w I (val ts) (val ts x) ((s.upd y t).get x)
    rw [hget]
    split
    · rename_i e; subst e; exact hrep
    · exact h.rep x
  · rw [hget] at e1 e2
    by_cases hx : y = x
    · subst hx
      rw [if_pos rfl] at e1
      by_cases hz : y = z
      · subst hz; rw [if_pos rfl] at e2; exact ⟨rfl, hinj i j b e1 e2⟩
      · rw [if_neg hz] at e2; exact absurd e2 ((hown i b e1).2.2.2 z j (Ne.symm hz))
    · rw [if_neg hx] at e1
      by_cases hz : y = z
      · subst hz; rw [if_pos rfl] at e2; exact absurd e1 ((hown j b e2).2.2.2 x i (Ne.symm hx))
      · rw [if_neg hz] at e2; exact h.inj x i z j b e1 e2
  · by_cases hx : y = x
    · subst hx
      rw [hget, if_pos rfl] at e
      obtain ⟨a1, a2, a3, _⟩ := hown i b e
      exact ⟨a1, a2, a3⟩
    · rw [hget, if_neg hx] at e
      exact h.away x i b e
  · rw [hget] at e
    rw [S.upd_isVar]
    split at e
    · rw [htg] at e; cases e
    · exact h.tgt x z e
  · rw [S.upd_isVar] at e
    refine ⟨(h.vtgt x e).1, ?_⟩
    rw [hget]
    split
    · exact htg
    · exact (h.vtgt x e).2

/-- A variable is forgotten. -/
theorem Inv.lose (h : Inv w0 ext I s ts w) {y : Nat} (hv : s.isVar y = true) : Inv w0 ext I (s.upd y .none) ts w :=
  h.upd hv (t := .none) trivial rfl (fun i b e => by simp [T.blocks] at e) (fun i j b e => by simp [T.blocks] at e)

end

/-- WHAT HOLDS OF A FRAME: I0: the blocks of what came in. -/
def Ok (w0 : World) (ext I0 : Nat → Prop) (s : S) (a : Act) (w : World) : Prop :=
  a.defers = [] ∧ ∃ I, (∀ b, I0 b → I b) ∧ (∀ b, I b → I0 b ∨ Mine w0 ext b) ∧ Inv w0 ext I s a.tmps w

theorem Act.eta (a : Act) (h : a.defers = []) : a = ⟨a.tmps, []⟩ := by cases a; simp_all

/-- An argument; from now on nobody writes it. -/
def frz (s : S) (x : Operand) : Option (S × Arg) :=
  match (ev s x).t, (ev s x).c with
  | .one d, _ => some (s, (false, [d]))
  | .agg ds, _ => some (s, (true, ds))
  | .own _ rows, _ => match x with
    | .tmp t => some (s.putT t (.one (.l rows)), (false, [.l rows]))
    | _ => Option.none
  | .ref y, .own _ rows => some (s.upd y (.one (.l rows)), (false, [.l rows]))
  | .ref _, .one d => some (s, (false, [d]))
  | _, _ => Option.none

theorem Fr_setCell (w : World) (b o : Nat) (v : Value) : Fr (fun i => i = b) w (w.setCell ⟨b, o, none⟩ v) :=
  ⟨rfl, rfl, rfl, by simp, fun k _ hk => heap_setCell_other w ⟨b, o, none⟩ k v hk⟩
theorem Fr_grown {w w' : World} {b : Nat} (h : w.grownBy w' (some b)) : Fr (fun i => i = b) w w' :=
  ⟨h.os, h.tape, h.output, h.size, fun k hk hne => h.block k hk (by simpa using hne)⟩

theorem frz_sound {w0 w : World} {ext I : Nat → Prop} {s s' : S} {ts : Array Value} {ds : List Deferred} (inv : Inv w0 ext I s ts w) {x : Operand} {A : Arg} (h : frz s x = some (s', A)) :
    ∃ I2, (∀ b, I b → I2 b) ∧ (∀ b, I2 b → I b ∨ Mine w0 ext b) ∧ Inv w0 ext I2 s' ts w ∧ ArgRep w I2 (Act.eval ⟨ts, ds⟩ x) A ∧ s'.n = s.n ∧ (∀ y, s'.isVar y = s.isVar y) := by
  have hr := opd_sound (ds := ds) inv x
  have et : (ev s x).t = opd s x := rfl
  unfold frz at h
  rw [et] at h
  split at h
  · rename_i d e1
    rw [e1] at hr
    cases h
    exact ⟨I, fun _ e => e, fun _ e => .inl e, inv, ⟨d, rfl, hr⟩, rfl, fun _ => rfl⟩
  · rename_i es e1
    rw [e1] at hr
    cases h
    exact ⟨I, fun _ e => e, fun _ e => .inl e, inv, hr, rfl, fun _ => rfl⟩
  · rename_i sz rows e1
    rw [e1] at hr
    obtain ⟨t, rfl, hg, hv⟩ := opd_own e1
    cases h
    refine ⟨_, fun _ e => .inl e, fun b e => ?_, inv.freezeT hv hg, ⟨_, rfl, ?_⟩, rfl, fun _ => rfl⟩
    · rcases e with e | e
      · exact .inl e
      · have := (inv.away t 0 b (by rw [hg]; simpa [T.blocks] using e)).2.2
        exact .inr this
    · exact OwnL.data hr (fun _ e => .inl e) (fun _ e => .inr e)
  · rename_i y sz rows e1 e2
    rw [e1] at hr
    cases h
    obtain ⟨h1, h2⟩ := ev_c inv x (y := y) (by rw [et, e1]; rfl)
    rw [e2] at h1 h2
    have hv : s.isVar y = true := opd_target inv x (by rw [e1]; rfl)
    have hr : Act.eval ⟨ts, ds⟩ x = val ts y := hr
    refine ⟨_, fun _ e => .inl e, fun b e => ?_, inv.freeze hv h1.symm, ⟨_, rfl, ?_⟩, rfl, fun z => S.upd_isVar s y _ z⟩
    · rcases e with e | e
      · exact .inl e
      · have := (inv.away y 0 b (by rw [← h1]; simpa [T.blocks] using e)).2.2
        exact .inr this
    · rw [hr]
      exact OwnL.data h2 (fun _ e => .inl e) (fun _ e => .inr e)
  · rename_i y d e1 e2
    rw [e1] at hr
    cases h
    obtain ⟨h1, h2⟩ := ev_c inv x (y := y) (by rw [et, e1]; rfl)
    rw [e2] at h2
    have hr : Act.eval ⟨ts, ds⟩ x = val ts y := hr
    exact ⟨I, fun _ e => e, fun _ e => .inl e, inv, ⟨d, rfl, by rw [hr]; exact h2⟩, rfl, fun _ => rfl⟩
  · cases h

end Go.Ax

/- A quiet operation's step; calls among them. -/
set_option linter.unusedVariables false
set_option linter.unusedSimpArgs false
namespace Go.Ax
open Go

theorem RepD.flat {w w' : World} {I I' : Nat → Prop} {d : D} {v : Value} (hf : d.flat = true) (h : RepD w I d v) : RepD w' I' d v := by
  cases h with
  | v _ h => exact .v _ h
  | l => cases hf
  | p => cases hf
  | c => cases hf
theorem RepL.flat {w w' : World} {I I' : Nat → Prop} {ds : List D} {vs : List Value} (hf : ∀ d ∈ ds, d.flat = true) (h : RepL w I ds vs) : RepL w' I' ds vs :=
  ⟨h.1, fun j d v h1 h2 => (h.2 j d v h1 h2).flat (hf d (List.mem_of_getElem? h1))⟩
theorem OwnL.flat {w : World} {I I' : Nat → Prop} {x : Value} {sz : Nat} {rows : List (List D)} (hf : rows.all (fun r => r.all D.flat) = true) (h : OwnL w I x sz rows) : OwnL w I' x sz rows := by
  rcases h with h | ⟨h0, e, xs, h1, h2, h3⟩
  · exact .inl h
  refine .inr ⟨h0, e, xs, h1, h2, h3.flat fun d hd => ?_⟩
  obtain ⟨r, hr, hd⟩ := List.mem_flatten.1 hd
  have := List.all_eq_true.1 hf r hr
  exact List.all_eq_true.1 this d hd
theorem RepC.flat {w : World} {I I' : Nat → Prop} {v : Value} {c : Comp} (hf : c.flat = true) (h : RepC w I v c) : RepC w I' v c := by
  cases c with
  | one lf => cases lf with
    | d d => exact RepD.flat hf h
    | own sz rows => exact OwnL.flat hf h
    | hole => trivial
  | agg ds =>
    obtain ⟨cs, h1, h2⟩ := h
    exact ⟨cs, h1, h2.flat fun d hd => List.all_eq_true.1 hf d hd⟩
  | bx ds => trivial
theorem resT_flat {w : World} {I I' : Nat → Prop} {ρ : Nat → Value} {v : Value} {cs : List Comp} (hf : cs.all Comp.flat = true) (h : RepV w I ρ v (resT cs)) : RepV w I' ρ v (resT cs) := by
  unfold resT at *
  split at h
  · rename_i d; exact RepD.flat (by simpa [Comp.flat] using hf) h
  · rename_i sz rows; exact OwnL.flat (by simpa [Comp.flat] using hf) h
  · rename_i ds
    obtain ⟨cs, h1, h2⟩ := h
    refine ⟨cs, h1, h2.flat fun d hd => ?_⟩
    have : ds.all D.flat = true := by simpa [Comp.flat] using hf
    exact List.all_eq_true.1 this d hd
  · simp [Comp.flat] at hf
  · obtain ⟨vs, h1, h2, h3⟩ := h
    exact ⟨vs, h1, h2, fun j c hc => RepC.flat (List.all_eq_true.1 hf c (List.mem_of_getElem? hc)) (h3 j c hc)⟩
theorem resT_target (cs : List Comp) : (resT cs).target = none := by unfold resT; split <;> rfl

section
variable {P : Program} {w0 w : World} {ext I0 : Nat → Prop} {s : S} {a : Act} {o : Oper}

theorem wp_value {next : Act → World → Prop} {Q : Exit → Act → World → Prop} {v : Value} {w' : World} (h : (execOp a.eval o).run P w = .ok (.value v) w') (k : next (a.put o.dst v) w') : o.wp P a w next Q := by
  unfold Oper.wp
  rw [h]
  exact k

theorem Act.put_some (ts : Array Value) (ds : List Deferred) (d : Nat) (v : Value) : Act.put ⟨ts, ds⟩ (some d) v = ⟨ts.setIfInBounds d v, ds⟩ := rfl

theorem args_sound {I : Nat → Prop} {ts : Array Value} {ds : List Deferred} (inv : Inv w0 ext I s ts w) : ∀ {xs : List Operand} {as : List Arg}, args? (ev s) xs = some as →
    ArgsRep w (fun b => I b ∨ Owned s w ts b) as (xs.map (Act.eval ⟨ts, ds⟩)) ∧ (xs.all (fun x => (ev s x).plain) = true → ArgsRep w I as (xs.map (Act.eval ⟨ts, ds⟩))) := by
  intro xs
  induction xs with
  | nil => intro as h; simp [args?] at h; subst h; exact ⟨trivial, fun _ => trivial⟩
  | cons x xs ih =>
    intro as h
    simp only [args?] at h
    split at h
    · rename_i b bs h1 h2
      cases h
      obtain ⟨k1, k2⟩ := ih h2
      refine ⟨⟨arg_sound inv h1, k1⟩, fun hp => ?_⟩
      simp only [List.all_cons, Bool.and_eq_true] at hp
      exact ⟨plain_sound inv h1 hp.1, k2 hp.2⟩
    · cases h

/-- The state behind a call. -/
theorem came_put {I : Nat → Prop} {ts : Array Value} (inv : Inv w0 ext I s ts w) {w' : World} {J : Nat → Prop} {v : Value} {cs : List Comp} (hJ : ∀ b, J b → I b ∨ Owned s w ts b) (hIJ : ∀ b, I b → J b) (h : Came w w' J v cs)
    (hor : cs.all Comp.flat = true ∨ ∀ b, J b → I b) {d : Nat} (hd : d < s.n) : ∃ I2, (∀ b, I b → I2 b) ∧ (∀ b, I2 b → I b ∨ Mine w0 ext b) ∧ Inv w0 ext I2 (s.put d (resT cs)) (ts.setIfInBounds d v) w' := by
  obtain ⟨hfr, I', h1, h2, h3, h4, h5⟩ := h
  have hw0 : w0.heap.size ≤ w.heap.size := inv.fr.size
  have inv1 := inv.grow hfr
  have hold : ∀ x i b, (s.get x).blocks w' (val ts x) i = some b → b < w.heap.size := by
    intro x i b e
    rw [T.blocks_world (fun b' e' => hfr.block b' (inv.away x 0 b' e').2.1 (fun e => e))] at e
    exact (inv.away x i b e).2.1
  rcases hor with hf | hp
  · refine ⟨I, fun _ e => e, fun _ e => .inl e, inv1.put hd (RepV.slots (ρ := fun _ => undef) (fun y e => by rw [resT_target] at e; cases e) (resT_flat hf h3)) (fun i b e => ?_) h5 (fun y e => by rw [resT_target] at e; cases e) (fun _ => resT_target cs)⟩
    obtain ⟨g1, g2, g3⟩ := h4 i b e
    exact ⟨fun hI => g1 (h1 b (hIJ b hI)), g3, .inl (Nat.le_trans hw0 g2), fun y j _ e2 => by have := hold y j b e2; omega⟩
  · have hI' : ∀ b, I' b → I b ∨ w.heap.size ≤ b := fun b e => (h2 b e).2.imp (hp b) id
    refine ⟨I', fun b e => h1 b (hIJ b e), fun b e => (hI' b e).imp id (fun e => .inl (Nat.le_trans hw0 e)), ?_⟩
    have inv2 : Inv w0 ext I' s ts w' := inv1.widen (fun b e => h1 b (hIJ b e)) (fun b e => (h2 b e).1) (fun x i b e hb => by
      have hlt := hold x i b e
      rcases hI' b hb with e2 | e2
      · exact (inv1.away x i b e).1 e2
      · omega)
    refine inv2.put hd (RepV.slots (ρ := fun _ => undef) (fun y e => by rw [resT_target] at e; cases e) h3) (fun i b e => ?_) h5 (fun y e => by rw [resT_target] at e; cases e) (fun _ => resT_target cs)
    obtain ⟨g1, g2, g3⟩ := h4 i b e
    exact ⟨g1, g3, .inl (Nat.le_trans hw0 g2), fun y j _ e2 => by have := hold y j b e2; omega⟩

theorem args_length {J : Nat → Prop} : ∀ {as : List Arg} {vs : List Value}, ArgsRep w J as vs → as.length = vs.length
  | [], [], _ => rfl
  | [], _ :: _, h => h.elim
  | _ :: _, [], h => h.elim
  | a :: as, v :: vs, h => by simp [args_length h.2]

/-- A call through a function's name. -/
theorem call_wp {c : Call} {f : Operand} {g : FuncId} (hop : o.op = .call c) (hc : c.callee = .value f) (hf : a.eval f = .func (.func g) #[] #[]) {next : Act → World → Prop} {Q : Exit → Act → World → Prop} {R : Value → World → Prop}
    (h : Invokes P g (c.args.toList.map a.eval).toArray w R) (k : ∀ v w', R v w' → next (a.put o.dst v) w') : o.wp P a w next Q := by
  have e1 : (execOp a.eval o).run P w = (callFunc g (c.args.toList.map a.eval).toArray).run P w := by
    have : (#[] : Array Value) ++ c.args.map a.eval ++ #[] = (c.args.toList.map a.eval).toArray := by
      apply Array.ext'
      simp
    simp only [execOp, hop, resolve, hc, hf, Deferred.ofValue, Sem.run_bind, Sem.run_pure, Result.andThen_ok, invoke, this]
  rcases h with ⟨h1, h2⟩ | ⟨v, w', h1, h2⟩
  · unfold Oper.wp
    rw [e1, h1]
    exact Calls.mono h2 (fun e w' ⟨v, he, hR⟩ => by subst he; exact k v w' hR)
  · exact wp_value (by rw [e1, h1]) (k v w' h2)

/-- A call of a function with what it has captured. -/
theorem call_wpC {c : Call} {f : Operand} {g : FuncId} {ptrs : Array Value} (hop : o.op = .call c) (hc : c.callee = .value f) (hf : a.eval f = .func (.func g) #[] ptrs) {next : Act → World → Prop} {Q : Exit → Act → World → Prop} {R : Value → World → Prop}
    (h : Invokes P g (c.args.toList.map a.eval ++ ptrs.toList).toArray w R) (k : ∀ v w', R v w' → next (a.put o.dst v) w') : o.wp P a w next Q := by
  have e1 : (execOp a.eval o).run P w = (callFunc g (c.args.toList.map a.eval ++ ptrs.toList).toArray).run P w := by
    have : (#[] : Array Value) ++ c.args.map a.eval ++ ptrs = (c.args.toList.map a.eval ++ ptrs.toList).toArray := by
      apply Array.ext'
      simp
    simp only [execOp, hop, resolve, hc, hf, Deferred.ofValue, Sem.run_bind, Sem.run_pure, Result.andThen_ok, invoke, this]
  rcases h with ⟨h1, h2⟩ | ⟨v, w', h1, h2⟩
  · unfold Oper.wp
    rw [e1, h1]
    exact Calls.mono h2 (fun e w' ⟨v, he, hR⟩ => by subst he; exact k v w' hR)
  · exact wp_value (by rw [e1, h1]) (k v w' h2)
theorem argsRep_append {J : Nat → Prop} : ∀ {as bs : List Arg} {us vs : List Value}, ArgsRep w J as us → ArgsRep w J bs vs → ArgsRep w J (as ++ bs) (us ++ vs)
  | [], bs, [], vs, _, h => h
  | [], _, _ :: _, _, h, _ => h.elim
  | _ :: _, _, [], _, h, _ => h.elim
  | a :: as, bs, u :: us, vs, h, k => ⟨h.1, argsRep_append h.2 k⟩
theorem argsRep_caps {J : Nat → Prop} : ∀ {caps : List D} {vs : List Value}, RepL w J caps vs → ArgsRep w J (caps.map capA) vs
  | [], vs, h => by rw [h.nil_inv]; trivial
  | c :: caps, vs, h => by
    obtain ⟨v, vs', rfl, h1, h2⟩ := h.cons_inv
    exact ⟨⟨c, rfl, h1⟩, argsRep_caps h2⟩
theorem RepD.c_inv {I : Nat → Prop} {g : FuncId} {caps : List D} {u : Value} (h : RepD w I (.c g caps) u) : ∃ ptrs : Array Value, u = .func (.func g) #[] ptrs ∧ RepL w I caps ptrs.toList := by
  cases h with
  | c _ _ ptrs hs hv =>
    refine ⟨ptrs, rfl, by simpa using hs, fun j d v h1 h2 => ?_⟩
    have := hv j d h1
    rw [Array.getElem?_toList] at h2
    simpa [Array.getD_eq_getD_getElem?, h2] using this
/-- A quiet operation's step. -/
theorem quiet_wp {I : Nat → Prop} {ts : Array Value} {ds : List Deferred} (inv : Inv w0 ext I s ts w) {r : T} (h : qOp P o.op (ev s) (· = r)) {d : Nat} (hd : o.dst = some d) (hlt : d < s.n) (hv : s.isVar d = true → r.target = none)
    {next : Act → World → Prop} {Q : Exit → Act → World → Prop}
    (k : ∀ I2 v w', (∀ b, I b → I2 b) → (∀ b, I2 b → I b ∨ Mine w0 ext b) → Inv w0 ext I2 (s.put d r) (ts.setIfInBounds d v) w' → next ⟨ts.setIfInBounds d v, ds⟩ w') : o.wp P ⟨ts, ds⟩ w next Q := by
  cases hc : isCall o.op with
  | false =>
    obtain ⟨v, h1, h2⟩ := qOp_sound (ds := ds) inv h hc
    refine wp_value h1 ?_
    rw [hd, Act.put_some]
    exact k I v w (fun _ e => e) (fun _ e => .inl e) (inv.put hlt h2.rep (fun i b e => by rw [h2.blocks] at e; cases e) (fun i j b e => by rw [h2.blocks] at e; cases e) h2.tgt hv)
  | true =>
    obtain ⟨dst, op, type, pos, after, guard⟩ := o
    cases op <;> try (cases hc; done)
    rename_i c
    obtain ⟨callee, args, argTypes⟩ := c
    simp only [qOp] at h
    split at h <;> try exact h.elim
    · cases hc
    · cases hc
    · cases hc
    rename_i f e0
    split at h <;> try exact h.elim
    rotate_left
    · rename_i g caps e1
      split at h <;> try exact h.elim
      rename_i as e2
      obtain ⟨cs, h1, h2, rfl⟩ := h.resolve_right id
      obtain ⟨k1, k2⟩ := args_sound (ds := ds) inv e2
      obtain ⟨ptrs, hf0, hcap⟩ := (ev_one (ds := ds) inv e1).c_inv
      have hown : ∀ b, Owned s w ts b → b < w.heap.size := fun b ⟨x, i, e⟩ => (inv.away x i b e).2.1
      by_cases hp : args.toList.all (fun x => (ev s x).plain) = true
      · refine call_wpC rfl rfl hf0 (h1 w I _ inv.Ilt (argsRep_append (k2 hp) (argsRep_caps hcap))) (fun v w' hcame => ?_)
        obtain ⟨I2, g1, g2, g3⟩ := came_put inv (fun b e => .inl e) (fun _ e => e) hcame (.inr fun _ e => e) hlt
        rw [hd, Act.put_some]
        exact k I2 v w' g1 g2 g3
      · have hf : cs.all Comp.flat = true := h2.resolve_right hp
        refine call_wpC rfl rfl hf0 (h1 w _ _ (fun b e => e.elim (inv.Ilt b) (hown b)) (argsRep_append k1 (argsRep_caps (hcap.mono (fun _ _ => rfl) (fun _ e => .inl e))))) (fun v w' hcame => ?_)
        obtain ⟨I2, g1, g2, g3⟩ := came_put inv (fun b e => e) (fun _ e => .inl e) hcame (.inl hf) hlt
        rw [hd, Act.put_some]
        exact k I2 v w' g1 g2 g3
    rename_i g first captured e1
    obtain ⟨rfl, rfl, h⟩ := h
    split at h <;> try exact h.elim
    rename_i as e2
    obtain ⟨cs, h1, h2, rfl⟩ := h.resolve_right id
    obtain ⟨k1, k2⟩ := args_sound (ds := ds) inv e2
    have hown : ∀ b, Owned s w ts b → b < w.heap.size := fun b ⟨x, i, e⟩ => (inv.away x i b e).2.1
    by_cases hp : args.toList.all (fun x => (ev s x).plain) = true
    · refine call_wp rfl rfl (ev_v (ds := ds) inv e1) (h1 w I _ inv.Ilt (k2 hp)) (fun v w' hcame => ?_)
      obtain ⟨I2, g1, g2, g3⟩ := came_put inv (fun b e => .inl e) (fun _ e => e) hcame (.inr fun _ e => e) hlt
      rw [hd, Act.put_some]
      exact k I2 v w' g1 g2 g3
    · have hf : cs.all Comp.flat = true := h2.resolve_right hp
      refine call_wp rfl rfl (ev_v (ds := ds) inv e1) (h1 w _ _ (fun b e => e.elim (inv.Ilt b) (hown b)) k1) (fun v w' hcame => ?_)
      obtain ⟨I2, g1, g2, g3⟩ := came_put inv (fun b e => e) (fun _ e => .inl e) hcame (.inl hf) hlt
      rw [hd, Act.put_some]
      exact k I2 v w' g1 g2 g3

end

end Go.Ax

/- The operations that turn more than their own slot. -/
set_option linter.unusedVariables false
set_option linter.unusedSimpArgs false
namespace Go.Ax
open Go

/-! ### What types are made of -/
def leafZ : List Value → Option (List Leaf)
  | [] => some []
  | v :: r => match cD v, leafZ r with
    | some (.l _), some ls => some (.own 0 [] :: ls)
    | some (.v x), some ls => some (.d (.v x) :: ls)
    | _, _ => Option.none
/-- The cells of a new variable. -/
def zeroT (P : Program) (t : TypeId) : Option (List Leaf) := ((P.info? t).bind (·.zero)).bind fun z => leafZ z.cells.toList
/-- A struct's fields: where, and how many cells. -/
def placesT (P : Program) (t : TypeId) : Option (List (Nat × Nat)) :=
  match P.underlying t with
  | some (.struct fields) => fields.toList.mapM fun f => (P.info? f.type).map fun i => (f.offset, i.size)
  | _ => Option.none
/-- A slice type's element type: its number, its cells, its bytes; the cells of its zero value. -/
def elemT (P : Program) (t : TypeId) : Option (TypeId × Nat × Nat × List D) :=
  match P.underlying t with
  | some (.slice e) => match P.info? e, zeroD P e with
    | some i, some z => if z.length = i.size then some (e, i.size, i.bytes, z) else Option.none
    | _, _ => Option.none
  | _ => Option.none
def arrT (P : Program) (t : TypeId) : Option Nat :=
  match P.underlying t with
  | some (.array _ e) => (P.info? e).map (·.size)
  | _ => Option.none

def fillD (place : Nat → Option (Nat × Nat)) : List D → List (Nat × Arg) → Option (List D)
  | cells, [] => some cells
  | cells, (i, (_, ds)) :: rest => match place i with
    | some (off, size) => if ds.length = size ∧ off + ds.length ≤ cells.length then fillD place (cells.take off ++ ds ++ cells.drop (off + ds.length)) rest else Option.none
    | Option.none => Option.none
def frzs (s : S) : List (Nat × Operand) → Option (S × List (Nat × Arg))
  | [] => some (s, [])
  | (i, x) :: r => match frz s x with
    | some (s1, A) => match frzs s1 r with
      | some (s2, l) => some (s2, (i, A) :: l)
      | Option.none => Option.none
    | Option.none => Option.none
def frza (s : S) : List Operand → Option (S × List Arg)
  | [] => some (s, [])
  | x :: r => match frz s x with
    | some (s1, A) => match frza s1 r with
      | some (s2, l) => some (s2, A :: l)
      | Option.none => Option.none
    | Option.none => Option.none

def strideT (P : Program) (t : TypeId) : Nat :=
  match P.underlying t with
  | some (.slice e) => P.cellsOf e
  | _ => 0
def eMove (P : Program) (ty : TypeId) (d : Nat) (x : Operand) (s : S) (K : S → Prop) : Prop :=
  match (ev s x).t with
  | .one (.l []) => match x with
    | .const (.slice Option.none 0 0) => K (s.put d (.own (strideT P ty) []))
    | _ => K (s.put d (.one (.l [])))
  | .own sz rows => match x with
    | .tmp t => K ((s.drop t).put d (.own sz rows))
    | _ => False
  | .tup cs => match x with
    | .tmp t => s.isVar t = false ∧ K ((s.drop t).put d (.tup cs))
    | _ => False
  | .el cells => K (s.put d (.el cells))
  | _ => match frz s x with
    | some (s', (false, [dd])) => K (s'.put d (.one dd))
    | some (s', (true, ds)) => K (s'.put d (.agg ds))
    | _ => False

def eBuild (P : Program) (d : Nat) (t : TypeId) (parts : List (Nat × Operand)) (s : S) (K : S → Prop) : Prop :=
  match zeroD P t, frzs s parts with
  | some z, some (s', l) => match placesT P t with
    | some pl => match fillD (pl[·]?) z l with
      | some ds => K (s'.put d (.agg ds))
      | Option.none => False
    | Option.none => match arrT P t with
      | some sz => match fillD (fun i => some (i * sz, sz)) z l with
        | some ds => K (s'.put d (.agg ds))
        | Option.none => False
      | Option.none => False
  | _, _ => False

def rowsOf (sz : Nat) : Nat → List (Nat × Arg) → Option (List (List D))
  | _, [] => some []
  | k, (i, (_, ds)) :: r => if i = k ∧ ds.length = sz then (rowsOf sz (k + 1) r).map (ds :: ·) else Option.none

def eBuildSlice (P : Program) (d : Nat) (t : TypeId) (len : Nat) (parts : List (Nat × Operand)) (s : S) (K : S → Prop) : Prop :=
  match elemT P t, frzs s parts with
  | some (e, sz, _, _), some (s', l) => match rowsOf sz 0 l with
    | some rows => 0 < sz ∧ rows.length = len ∧ len ≤ 16777216 ∧ len * sz ≤ 16777216 ∧ K (s'.put d (.own sz rows))
    | Option.none => False
  | _, _ => False

def eMake (P : Program) (d : Nat) (t : TypeId) (l c : Operand) (s : S) (K : S → Prop) : Prop :=
  match elemT P t, (ev s l).t, (ev s c).t with
  | some (e, sz, bytes, z), .one (.v (.int _ n)), .one (.v (.int _ m)) => 0 < sz ∧ 0 ≤ n ∧ n ≤ m ∧ bytes * m ≤ 281474976710656 ∧ m ≤ 9223372036854775807 ∧ K (s.put d (.own sz (List.replicate n.toNat z)))
  | _, _, _ => False

/-- What is appended to: its rows, and the state in which nobody owns them. -/
def take1 (s : S) (x : Operand) : Option (S × Nat × List (List D)) :=
  match (ev s x).t, (ev s x).c with
  | .ref y, .own sz rows => some (s.upd y .none, sz, rows)
  | .own sz rows, _ => match x with
    | .tmp t => some (s.drop t, sz, rows)
    | _ => Option.none
  | .cref y off, .box cells => match cells[off]? with
    | some (.own sz rows) => some (s.upd y (.box (cells.set off .hole)), sz, rows)
    | _ => Option.none
  | .one (.l []), _ => match x with
    | .const (.slice Option.none 0 0) => some (s, 0, [])
    | _ => Option.none
  | _, _ => Option.none

def eAppend (P : Program) (d : Nat) (t t2 : TypeId) (x y : Operand) (s : S) (K : S → Prop) : Prop :=
  t2 = t ∧ match elemT P t, take1 s x, (ev s y).lst with
  | some (e, sz, bytes, z), some (s', sz', rows), some rows2 => 0 < sz ∧ (sz' = sz ∨ sz' = 0) ∧ (∀ r ∈ rows2, r.length = sz) ∧ (rows.length + rows2.length) * bytes ≤ 140737488355328 ∧ rows.length + rows2.length ≤ 140737488355328 ∧ K (s'.noC.put d (.own sz (rows ++ rows2)))
  | _, _, _ => False

def eStore (P : Program) (t : TypeId) (addr x : Operand) (s : S) (K : S → Prop) : Prop :=
  (P.info? t).isSome = true ∧ match (ev s addr).t, (ev s addr).c with
  | .bref y off, .box cells => match (ev s x).t with
    | .own sz rows => match x with
      | .tmp z => P.cellsOf t = 1 ∧ off < cells.length ∧ K ((s.drop z).noC.upd y (.box (cells.set off (.own sz rows))))
      | _ => False
    | _ => match frz s x with
      | some (s', (_, ds)) => ds.length = P.cellsOf t ∧ off + ds.length ≤ cells.length ∧ (match s'.get y with
        | .box cells' => K (s'.noC.upd y (.box (cells'.take off ++ ds.map Leaf.d ++ cells'.drop (off + ds.length))))
        | _ => False)
      | Option.none => False
  | .oref y sz i off, .own _ rows => match frz s x with
    | some (s', (_, ds)) => ds.length = P.cellsOf t ∧ i < rows.length ∧ (rows.getD i (List.replicate sz (.v undef))).length = sz ∧ off + ds.length ≤ sz ∧ (match s'.get y with
      | .own sz' rows' => i < rows'.length ∧ (rows'.getD i (List.replicate sz (.v undef))).length = sz ∧ K (s'.noC.upd y (.own sz' (rows'.set i ((rows'.getD i (List.replicate sz (.v undef))).take off ++ ds ++ (rows'.getD i (List.replicate sz (.v undef))).drop (off + ds.length)))))
      | _ => False)
    | Option.none => False
  | _, _ => False

/-- What follows a call that is handed what somebody owns. -/
def kFrz (s s' : S) (d : Nat) (K : S → Prop) (cs : List Comp) : Prop := if cs.all Comp.flat = true then K (s.put d (resT cs)) else K (s'.put d (resT cs))
/-- An argument that may be handed over: what it is; what its slot is from now on. -/
inductive XE where
  | no
  | drop (t : Nat)
  | none (y : Nat)
  | hole (y : Nat) (cells : List Leaf)
  | bx (y : Nat)
  | ln (y sz : Nat) (rows : List (List D))
def XE.slot : XE → List Nat
  | .no => []
  | .drop t => [t]
  | .none y => [y]
  | .hole y _ => [y]
  | .bx y => [y]
  | .ln y _ _ => [y]
def XE.hot : XE → Bool
  | .no => false
  | _ => true
def xarg (s : S) (l : Bool) (x : Operand) : Option (XA × XE) :=
  match (ev s x).t, (ev s x).c with
  | .one d, _ => some (.d (false, [d]), .no)
  | .agg ds, _ => some (.d (true, ds), .no)
  | .el cells, _ => some (.d (false, [.p cells]), .no)
  | .own sz rows, _ => match x with
    | .tmp t => some (.own sz rows, .drop t)
    | _ => Option.none
  | .ref y, .own sz rows => if l = true then some (.lend sz rows, .ln y sz rows) else some (.own sz rows, .none y)
  | .ref _, .one d => some (.d (false, [d]), .no)
  | .cref y off, .box cells => match cells[off]? with
    | some (.own sz rows) => some (.own sz rows, .hole y (cells.set off .hole))
    | _ => Option.none
  | .bref y 0, .box cells => some (.box cells, .bx y)
  | _, _ => Option.none
def xargs (s : S) : List Bool → List Operand → Option (List XA × List XE)
  | _, [] => some ([], [])
  | ls, x :: r => match xarg s (ls.headD false) x, xargs s ls.tail r with
    | some (a, e), some (as, es) => some (a :: as, e :: es)
    | _, _ => Option.none
def notIn (x : Nat) : List Nat → Bool
  | [] => true
  | y :: r => !(x == y) && notIn x r
def distinct : List Nat → Bool
  | [] => true
  | x :: r => notIn x r && distinct r
/-- What is handed over is gone .. -/
def XE.take : XE → S → S
  | .drop t, s => s.drop t
  | .none y, s => s.upd y .none
  | .hole y cells, s => s.upd y (.box cells)
  | _, s => s
def takes : List XE → S → S
  | [], s => s
  | e :: r, s => e.take (takes r s)
/-- .. and boxes come back. -/
def XE.give : XE → List Leaf → S → S
  | .bx y, o, s => s.upd y (.box o)
  | _, _, s => s
def gives : List XE → List (List Leaf) → S → S
  | [], _, s => s
  | e :: r, os, s => e.give (os.headD []) (gives r os.tail s)
def xState (es : List XE) (os : List (List Leaf)) (d : Nat) (cs : List Comp) (s : S) : S := (gives es os (takes es s.noC)).put d (resT cs)
def xCall (P : Program) (g : FuncId) (args : List Operand) (d : Nat) (s : S) (K : S → Prop) : Prop :=
  ∃ ls xs es os cs, xargs s ls args = some (xs, es) ∧ es.any XE.hot = true ∧ distinct (es.flatMap XE.slot) = true ∧ XSpec P g xs os cs ∧ K (xState es os d cs s)
def eOp (P : Program) (ty : TypeId) (op : Op) (d : Nat) (s : S) (K : S → Prop) : Prop :=
  match op with
  | .move x => eMove P ty d x s K
  | .assign x => eMove P ty d x s K
  | .alloc e => match zeroT P e with
    | some cells => K (s.put d (.box cells))
    | Option.none => False
  | .box _ x => match frz s x with
    | some (s', (_, ds)) => K (s'.put d (.box (ds.map Leaf.d)))
    | Option.none => False
  | .build t parts => eBuild P d t parts.toList s K
  | .buildSlice t len parts => eBuildSlice P d t len parts.toList s K
  | .makeSlice t l c => eMake P d t l c s K
  | .extract x j => match x, (ev s x).t with
    | .tmp t, .tup cs => s.isVar t = false ∧ t < s.n ∧ match cs[j]? with
      | some (.one (.own sz rows)) => K ((s.putT t (.tup (cs.set j (.one .hole)))).put d (.own sz rows))
      | _ => False
    | _, _ => False
  | .call c => match c.callee with
    | .builtin .append => match c.args.toList, c.argTypes.toList with
      | [x, y], [t, t2] => eAppend P d t t2 x y s K
      | _, _ => False
    | .value f => match (ev s f).t with
      | .one (.v (.func (.func g) first captured)) => first = #[] ∧ captured = #[] ∧ match args? (ev s) c.args.toList with
        | some as => match frza s c.args.toList with
          | some (s', as') => as' = as ∧ aCall P g as (kFrz s s' d K) (xCall P g c.args.toList d s K)
          | Option.none => False
        | Option.none => xCall P g c.args.toList d s K
      | _ => False
    | _ => False
  | _ => False

/-! ### Which way an operation is told -/
def T.isBref : T → Bool
  | .bref _ _ => true
  | _ => false
def isOwnT : T → Bool
  | .own _ _ => true
  | _ => false
def flatTy (P : Program) (t : TypeId) : Bool :=
  let one := fun t => match P.info? t with
    | some i => !i.hasPointers
    | Option.none => false
  match P.underlying t with
  | some (.tuple es) => es.toList.all one
  | _ => one t
def loud (P : Program) (ty : TypeId) (op : Op) (s : S) (d : Nat) : Bool :=
  match op with
  | .move x => s.isVar d || isOwnT (ev s x).t || (match (ev s x).t with | .tup cs => !cs.all Comp.plain | _ => false)
  | .assign _ => true
  | .alloc _ => true
  | .box _ _ => true
  | .build _ _ => true
  | .buildSlice _ _ _ => true
  | .makeSlice _ _ _ => true
  | .extract x j => match (ev s x).t with
    | .tup cs => match cs[j]? with
      | some (.one (.own _ _)) => true
      | _ => false
    | _ => false
  | .call c => match c.callee with
    | .builtin .append => true
    | .value _ => (!(c.args.toList.all fun x => (ev s x).plain) && !flatTy P ty) || c.args.toList.any fun x => (ev s x).t.isBref
    | _ => false
  | _ => false

end Go.Ax

/- The louder operations are told rightly. -/
set_option linter.unusedVariables false
set_option linter.unusedSimpArgs false
namespace Go.Ax
open Go

section
variable {P : Program} {w0 w : World} {ext I : Nat → Prop} {s : S} {ts : Array Value} {ds : List Deferred} {o : Oper} {next : Act → World → Prop} {Q : Exit → Act → World → Prop}

/-- What follows an operation at slot d. -/
def Next (w0 : World) (ext I : Nat → Prop) (d : Nat) (ts : Array Value) (ds : List Deferred) (K : S → Prop) (next : Act → World → Prop) : Prop :=
  ∀ I2 v w' s', K s' → (∀ b, I b → I2 b) → (∀ b, I2 b → I b ∨ Mine w0 ext b) → Inv w0 ext I2 s' (ts.setIfInBounds d v) w' → next ⟨ts.setIfInBounds d v, ds⟩ w'

theorem S.putT_isVar (s : S) (x : Nat) (t : T) (y : Nat) : (s.putT x t).isVar y = s.isVar y := rfl

theorem put_agg (inv : Inv w0 ext I s ts w) {d : Nat} (hlt : d < s.n) {cs : Array Value} {es : List D} (h : RepL w I es cs.toList) : Inv w0 ext I (s.put d (.agg es)) (ts.setIfInBounds d (.agg cs)) w :=
  inv.put_plain hlt ⟨cs, rfl, h⟩ (fun _ => rfl) rfl
theorem put_one (inv : Inv w0 ext I s ts w) {d : Nat} (hlt : d < s.n) {v : Value} {x : D} (h : RepD w I x v) : Inv w0 ext I (s.put d (.one x)) (ts.setIfInBounds d v) w :=
  inv.put_plain hlt h (fun _ => rfl) rfl

/-- A value that owns what a temporary owned moves on. -/
theorem move_own (inv : Inv w0 ext I s ts w) {t d : Nat} (ht : s.isVar t = false) (hlt : d < s.n) {u : T} (hg : s.get t = u) (htg : u.target = none) (hb : u.isBox = false) :
    Inv w0 ext I ((s.drop t).put d u) (ts.setIfInBounds d (val ts t)) w := by
  have inv1 := inv.drop ht
  have hr : RepV w I (val ts) (val ts t) u := by have := inv.rep t; rw [hg] at this; exact this
  have gdrop : ∀ y, (s.drop t).get y = if t = y then .none else s.get y := fun y => S.get_putT s t .none y
  refine inv1.put hlt hr (fun i b e => ?_) (fun i j b e1 e2 => (inv.inj t i t j b (by rw [hg]; exact e1) (by rw [hg]; exact e2)).2) (fun y e => by rw [htg] at e; cases e) (fun _ => htg)
  have e' : (s.get t).blocks w (val ts t) i = some b := by rw [hg]; exact e
  obtain ⟨a1, a2, a3⟩ := inv.away t i b e'
  refine ⟨a1, a2, a3, fun y j hy e2 => ?_⟩
  · rw [gdrop] at e2
    split at e2
    · simp [T.blocks] at e2
    · rename_i hne
      exact hne (inv.inj t i y j b e' e2).1

theorem eMove_wp (inv : Inv w0 ext I s ts w) {x : Operand} {d : Nat} {K : S → Prop} {ty : TypeId} (h : eMove P ty d x s K) (hlt : d < s.n) (hrun : (execOp (Act.eval ⟨ts, ds⟩) o).run P w = .ok (.value (Act.eval ⟨ts, ds⟩ x)) w)
    (hd : o.dst = some d) (k : Next w0 ext I d ts ds K next) : o.wp P ⟨ts, ds⟩ w next Q := by
  refine wp_value hrun ?_
  rw [hd, Act.put_some]
  have hr := opd_sound (ds := ds) inv x
  have et : (ev s x).t = opd s x := rfl
  unfold eMove at h
  rw [et] at h
  split at h
  · rename_i e1
    rw [e1] at hr
    split at h
    · exact k I _ w _ h (fun _ e => e) (fun _ e => .inl e) (inv.put_plain hlt (OwnL.nil w I _) (fun i => by simp [T.blocks, Value.ownBlock, Act.eval]) rfl)
    · exact k I _ w _ h (fun _ e => e) (fun _ e => .inl e) (put_one inv hlt hr)
  · rename_i sz rows e1
    obtain ⟨t, rfl, hg, hv⟩ := opd_own e1
    exact k I _ w _ h (fun _ e => e) (fun _ e => .inl e) (move_own inv hv hlt hg rfl rfl)
  · rename_i cs e1
    split at h
    · rename_i t
      obtain ⟨hv, h⟩ := h
      have hg : s.get t = .tup cs := by
        unfold opd at e1
        simp only [] at e1
        split at e1
        · split at e1 <;> cases e1
        · split at e1 <;> cases e1
        · exact e1
      exact k I _ w _ h (fun _ e => e) (fun _ e => .inl e) (move_own inv hv hlt hg rfl rfl)
    · exact h.elim
  · rename_i cells e1
    rw [e1] at hr
    exact k I _ w _ h (fun _ e => e) (fun _ e => .inl e) (inv.put_plain hlt (RepV.slots (fun _ e => by cases e) hr) (fun _ => rfl) rfl)
  · split at h
    · rename_i s' dd hf
      obtain ⟨I2, h1, h2, h3, ⟨d', hd', h4⟩, h5, h6⟩ := frz_sound (ds := ds) inv hf
      simp only [List.cons.injEq, and_true] at hd'
      subst hd'
      exact k I2 _ w _ h h1 h2 (put_one h3 (by rw [h5]; exact hlt) h4)
    · rename_i s' es hf
      obtain ⟨I2, h1, h2, h3, ⟨cs, e2, h4⟩, h5, h6⟩ := frz_sound (ds := ds) inv hf
      rw [e2]
      exact k I2 _ w _ h h1 h2 (put_agg h3 (by rw [h5]; exact hlt) h4)
    · exact h.elim

/-! ### Building -/
theorem ArgRep.cells {v : Value} {A : Arg} (h : ArgRep w I v A) : RepL w I A.2 v.cells.toList := by
  obtain ⟨g, es⟩ := A
  cases g with
  | true => obtain ⟨cs, rfl, h⟩ := h; exact h
  | false =>
    obtain ⟨d, rfl, h⟩ := h
    have h1 := h.one
    cases v <;> first
      | exact RepL.cons h (RepL.nil _ _)
      | cases h1
theorem ArgRep.mono {w' : World} {I' : Nat → Prop} (hw : ∀ b, I b → w'.heap[b]? = w.heap[b]?) (hI : ∀ b, I b → I' b) {v : Value} {A : Arg} (h : ArgRep w I v A) : ArgRep w' I' v A := by
  obtain ⟨g, es⟩ := A
  cases g with
  | true => obtain ⟨cs, rfl, h⟩ := h; exact ⟨cs, rfl, h.mono hw hI⟩
  | false => obtain ⟨d, rfl, h⟩ := h; exact ⟨d, rfl, RepD.mono hw hI h⟩

def PartsRep (w : World) (I : Nat → Prop) : List (Nat × Value) → List (Nat × Arg) → Prop
  | [], [] => True
  | (i, v) :: vs, (j, A) :: as => i = j ∧ ArgRep w I v A ∧ PartsRep w I vs as
  | _, _ => False

theorem frzs_sound : ∀ {parts : List (Nat × Operand)} {s s' : S} {I : Nat → Prop} {l : List (Nat × Arg)}, Inv w0 ext I s ts w → frzs s parts = some (s', l) →
    ∃ I2, (∀ b, I b → I2 b) ∧ (∀ b, I2 b → I b ∨ Mine w0 ext b) ∧ Inv w0 ext I2 s' ts w ∧ PartsRep w I2 (parts.map fun p => (p.1, Act.eval ⟨ts, ds⟩ p.2)) l ∧ s'.n = s.n ∧ (∀ y, s'.isVar y = s.isVar y) := by
  intro parts
  induction parts with
  | nil => intro s s' I l inv h; simp [frzs] at h; obtain ⟨rfl, rfl⟩ := h; exact ⟨I, fun _ e => e, fun _ e => .inl e, inv, trivial, rfl, fun _ => rfl⟩
  | cons p parts ih =>
    intro s s' I l inv h
    obtain ⟨i, x⟩ := p
    simp only [frzs] at h
    split at h
    · rename_i s1 A h1
      split at h
      · rename_i s2 l2 h2
        cases h
        obtain ⟨I1, a1, a2, a3, a4, a5, a6⟩ := frz_sound (ds := ds) inv h1
        obtain ⟨I2, b1, b2, b3, b4, b5, b6⟩ := ih a3 h2
        exact ⟨I2, fun b e => b1 b (a1 b e), fun b e => (b2 b e).elim (a2 b) .inr, b3, ⟨rfl, a4.mono (fun _ _ => rfl) b1, b4⟩, b5.trans a5, fun y => (b6 y).trans (a6 y)⟩
      · cases h
    · cases h
theorem frza_sound : ∀ {xs : List Operand} {s s' : S} {I : Nat → Prop} {l : List Arg}, Inv w0 ext I s ts w → frza s xs = some (s', l) →
    ∃ I2, (∀ b, I b → I2 b) ∧ (∀ b, I2 b → I b ∨ Mine w0 ext b) ∧ Inv w0 ext I2 s' ts w ∧ ArgsRep w I2 l (xs.map (Act.eval ⟨ts, ds⟩)) ∧ s'.n = s.n ∧ (∀ y, s'.isVar y = s.isVar y) := by
  intro xs
  induction xs with
  | nil => intro s s' I l inv h; simp [frza] at h; obtain ⟨rfl, rfl⟩ := h; exact ⟨I, fun _ e => e, fun _ e => .inl e, inv, trivial, rfl, fun _ => rfl⟩
  | cons x xs ih =>
    intro s s' I l inv h
    simp only [frza] at h
    split at h
    · rename_i s1 A h1
      split at h
      · rename_i s2 l2 h2
        cases h
        obtain ⟨I1, a1, a2, a3, a4, a5, a6⟩ := frz_sound (ds := ds) inv h1
        obtain ⟨I2, b1, b2, b3, b4, b5, b6⟩ := ih a3 h2
        exact ⟨I2, fun b e => b1 b (a1 b e), fun b e => (b2 b e).elim (a2 b) .inr, b3, ⟨a4.mono (fun _ _ => rfl) b1, b4⟩, b5.trans a5, fun y => (b6 y).trans (a6 y)⟩
      · cases h
    · cases h

theorem fold_set : ∀ (l : List Value) (n : Nat) (cells : Array Value) (off : Nat), off + n + l.length ≤ cells.size →
    ((l.zipIdx n).foldl (fun cs (p : Value × Nat) => cs.setIfInBounds (off + p.2) p.1) cells).toList = cells.toList.take (off + n) ++ l ++ cells.toList.drop (off + n + l.length) := by
  intro l
  induction l with
  | nil => intro n cells off h; simp
  | cons v l ih =>
    intro n cells off h
    simp only [List.length_cons] at h
    rw [List.zipIdx_cons, List.foldl_cons, ih (n + 1) _ off (by simp; omega)]
    have hlt : off + n < cells.toList.length := by simp; omega
    simp only [Array.toList_setIfInBounds]
    apply List.ext_getElem?
    intro j
    simp only [List.getElem?_append, List.length_take, List.length_set, List.length_append, List.length_cons, List.getElem?_take, List.getElem?_drop, List.getElem?_set, Array.length_toList] at hlt ⊢
    by_cases h1 : j < off + n
    · simp [h1, show j < off + (n + 1) by omega, show min (off + (n + 1)) cells.size = off + (n + 1) by omega, show min (off + n) cells.size = off + n by omega, show ¬ off + n = j by omega, show j < off + (n + 1) + l.length by omega, show j < off + n + (l.length + 1) by omega]
    · by_cases h2 : j = off + n
      · subst h2
        simp [show min (off + (n + 1)) cells.size = off + (n + 1) by omega, show min (off + n) cells.size = off + n by omega, hlt, show off + n < off + (n + 1) by omega, show off + n < off + (n + 1) + l.length by omega]
      · by_cases h3 : j < off + (n + 1) + l.length
        · simp [h1, show ¬ j < off + (n + 1) by omega, show min (off + (n + 1)) cells.size = off + (n + 1) by omega, show min (off + n) cells.size = off + n by omega, show ¬ off + n = j by omega, h3, show j < off + n + (l.length + 1) by omega, show j - (off + n) = (j - (off + (n + 1))) + 1 by omega]
        · simp [h1, h3, show ¬ j < off + (n + 1) by omega, show min (off + (n + 1)) cells.size = off + (n + 1) by omega, show min (off + n) cells.size = off + n by omega, show ¬ j < off + n + (l.length + 1) by omega, show off + (n + 1) + l.length = off + n + (l.length + 1) by omega, show ¬ off + n = off + n + (l.length + 1) + (j - (off + n + (l.length + 1))) by omega]

theorem fill_sound {place : Nat → Option (Nat × Nat)} : ∀ {dparts : List (Nat × Arg)} {vparts : List (Nat × Value)} {cells out : List D} {cs : Array Value}, fillD place cells dparts = some out → PartsRep w I vparts dparts → RepL w I cells cs.toList →
    ∃ outv, Instr.fill place cs vparts = some outv ∧ RepL w I out outv.toList := by
  intro dparts
  induction dparts with
  | nil =>
    intro vparts cells out cs h hp hr
    cases vparts with
    | nil => simp [fillD] at h; subst h; exact ⟨cs, rfl, hr⟩
    | cons p vs => exact hp.elim
  | cons q dparts ih =>
    intro vparts cells out cs h hp hr
    obtain ⟨j, g, es⟩ := q
    cases vparts with
    | nil => exact hp.elim
    | cons p vs =>
      obtain ⟨i, v⟩ := p
      obtain ⟨rfl, hv, hp⟩ := hp
      simp only [fillD] at h
      split at h
      · rename_i off size hpl
        split at h
        · rename_i hc
          obtain ⟨hc1, hc2⟩ := hc
          have hcells := hv.cells
          have hlen : es.length = v.cells.size := by have := hcells.1; simpa using this
          have hcl : cells.length = cs.size := by have := hr.1; simpa using this
          have hf := fold_set v.cells.toList 0 cs off (by simp; omega)
          have hz : v.cells.zipIdx.foldl (fun cs (p : Value × Nat) => cs.setIfInBounds (off + p.2) p.1) cs = (v.cells.toList.zipIdx 0).foldl (fun cs (p : Value × Nat) => cs.setIfInBounds (off + p.2) p.1) cs := by
            rw [← Array.foldl_toList, Array.toList_zipIdx]
          have hstep : Instr.fill place cs ((i, v) :: vs) = Instr.fill place (v.cells.zipIdx.foldl (fun cs (p : Value × Nat) => cs.setIfInBounds (off + p.2) p.1) cs) vs := by
            rw [Instr.fill, hpl]
            simp only []
            rw [if_neg (by simp; omega)]
          rw [hstep]
          refine ih h hp ?_
          rw [hz, hf]
          have h3 := ((hr.take off).append hcells).append (hr.drop (off + es.length))
          simpa [hlen] using h3
        · cases h
      · cases h

end

end Go.Ax

/- Building, making, appending, storing. -/
set_option linter.unusedVariables false
set_option linter.unusedSimpArgs false
namespace Go.Ax
open Go

section
variable {P : Program} {w0 w : World} {ext I : Nat → Prop} {s : S} {ts : Array Value} {ds : List Deferred} {o : Oper} {next : Act → World → Prop} {Q : Exit → Act → World → Prop}

theorem parts_map (parts : Array (Nat × Operand)) : (parts.map fun (i, x) => (i, Act.eval ⟨ts, ds⟩ x)).toList = parts.toList.map fun p => (p.1, Act.eval ⟨ts, ds⟩ p.2) := by
  rw [Array.toList_map]

theorem zeroD_inv {t : TypeId} {z : List D} (h : zeroD P t = some z) : ∃ i zv, P.info? t = some i ∧ i.zero = some zv ∧ cDs zv.cells.toList = some z := by
  unfold zeroD at h
  cases hi : P.info? t with
  | none => rw [hi] at h; cases h
  | some i =>
    rw [hi] at h
    cases hz : i.zero with
    | none => simp [hz] at h
    | some zv => exact ⟨i, zv, rfl, hz, by simpa [hz] using h⟩

theorem eBuild_wp (inv : Inv w0 ext I s ts w) {t : TypeId} {parts : Array (Nat × Operand)} {d : Nat} {K : S → Prop} (h : eBuild P d t parts.toList s K) (hlt : d < s.n) (hop : o.op = .build t parts)
    (hd : o.dst = some d) (k : Next w0 ext I d ts ds K next) : o.wp P ⟨ts, ds⟩ w next Q := by
  unfold eBuild at h
  split at h <;> try exact h.elim
  rename_i z s' l hz hf
  obtain ⟨i, zv, hi, hzv, hcd⟩ := zeroD_inv hz
  obtain ⟨I2, h1, h2, h3, h4, h5, h6⟩ := frzs_sound (ds := ds) inv hf
  have hz0 : RepL w I2 z zv.cells.toList := cDs_sound hcd
  have fin : ∀ {es : List D} {outv : Array Value}, P.built t (parts.map fun (i, x) => (i, Act.eval ⟨ts, ds⟩ x)).toList = some outv → RepL w I2 es outv.toList → K (s'.put d (.agg es)) → o.wp P ⟨ts, ds⟩ w next Q := by
    intro es outv hb hr hK
    have hrun := run_build (P := P) w t _ outv hb
    refine wp_value (v := .agg outv) (w' := w) ?_ ?_
    · simp only [execOp, hop, Sem.run_bind, hrun, Result.andThen_ok, Sem.run_pure]
    · rw [hd, Act.put_some]
      exact k I2 _ w _ hK h1 h2 (put_agg h3 (by rw [h5]; exact hlt) hr)
  split at h
  · rename_i pl hpl
    split at h <;> try exact h.elim
    rename_i es hfd
    obtain ⟨outv, g1, g2⟩ := fill_sound hfd h4 hz0
    refine fin ?_ g2 h
    unfold placesT at hpl
    split at hpl <;> try cases hpl
    rename_i fields hu
    rw [parts_map]
    unfold Program.built
    simp only [hi, hu, hzv, hpl]
    have : (fun (x : Nat) => (pl.toArray)[x]?) = (fun (x : Nat) => pl[x]?) := by funext x; simp
    rw [this]
    exact g1
  · split at h <;> try exact h.elim
    rename_i sz hsz
    split at h <;> try exact h.elim
    rename_i es hfd
    obtain ⟨outv, g1, g2⟩ := fill_sound hfd h4 hz0
    refine fin ?_ g2 h
    unfold arrT at hsz
    split at hsz <;> try cases hsz
    rename_i n e hu
    obtain ⟨ie, hie, rfl⟩ := Option.map_eq_some_iff.1 hsz
    rw [parts_map]
    unfold Program.built
    simp only [hi, hu, hzv, hie]
    exact g1

theorem elemT_inv {t : TypeId} {e : TypeId} {sz bytes : Nat} {z : List D} (h : elemT P t = some (e, sz, bytes, z)) :
    ∃ i zv, P.underlying t = some (.slice e) ∧ P.info? e = some i ∧ i.zero = some zv ∧ cDs zv.cells.toList = some z ∧ i.size = sz ∧ i.bytes = bytes ∧ z.length = sz := by
  unfold elemT at h
  split at h <;> try cases h
  rename_i e' hu
  split at h <;> try cases h
  rename_i i z' hi hz
  split at h <;> try cases h
  rename_i hl
  obtain ⟨i', zv, h1, h2, h3⟩ := zeroD_inv hz
  rw [hi] at h1
  cases h1
  exact ⟨_, zv, hu, hi, h2, h3, rfl, rfl, hl⟩

/-- A new list, put into a slot. -/
theorem put_new (inv : Inv w0 ext I s ts w) {d : Nat} (hlt : d < s.n) {v : Value} {sz : Nat} {rows : List (List D)} (h : OwnL w I v sz rows) (hb : ∀ b, v.ownBlock = some b → ¬ I b ∧ Mine w0 ext b ∧ ∀ y j, (s.get y).blocks w (val ts y) j ≠ some b) :
    Inv w0 ext I (s.put d (.own sz rows)) (ts.setIfInBounds d v) w := by
  refine inv.put hlt h (fun i b e => ?_) (fun i j b e1 e2 => ?_) (fun y e => by cases e) (fun _ => rfl)
  · have e' : v.ownBlock = some b := by
      unfold T.blocks at e
      dsimp only at e
      split at e
      · exact e
      · cases e
    obtain ⟨b1, b2, b3⟩ := hb b e'
    exact ⟨b1, h.lt e', b2, fun y j _ => b3 y j⟩
  · unfold T.blocks at e1 e2
    dsimp only at e1 e2
    split at e1
    · split at e2
      · omega
      · cases e2
    · cases e1

theorem old_blocks (inv : Inv w0 ext I s ts w) {w' : World} (hw : Fr noExt w w') {b : Nat} (hb : w.heap.size ≤ b) : ¬ I b ∧ Mine w0 ext b ∧ ∀ y j, (s.get y).blocks w' (val ts y) j ≠ some b := by
  refine ⟨fun e => by have := inv.Ilt b e; omega, .inl (Nat.le_trans inv.fr.size hb), fun y j e => ?_⟩
  rw [T.blocks_world (fun b' e' => hw.block b' (inv.away y 0 b' e').2.1 (fun e => e))] at e
  have := (inv.away y j b e).2.1
  omega

theorem rowsOf_sound {sz : Nat} : ∀ {l : List (Nat × Arg)} {vparts : List (Nat × Value)} {k : Nat} {rows : List (List D)} {pre rest : List Value}, rowsOf sz k l = some rows → PartsRep w I vparts l → pre.length = k * sz → rest.length = l.length * sz →
    (∀ r ∈ rows, r.length = sz) ∧ rows.length = l.length ∧ ∃ us, Instr.fill (fun i => some (i * sz, sz)) (pre ++ rest).toArray vparts = some (pre ++ us).toArray ∧ RepL w I rows.flatten us := by
  intro l
  induction l with
  | nil =>
    intro vparts k rows pre rest h hp h1 h2
    simp [rowsOf] at h
    subst h
    have : rest = [] := List.eq_nil_of_length_eq_zero (by simpa using h2)
    subst this
    cases vparts with
    | nil => exact ⟨by simp, rfl, [], by simp [Instr.fill], RepL.nil _ _⟩
    | cons p vs => exact hp.elim
  | cons q l ih =>
    intro vparts k rows pre rest h hp h1 h2
    obtain ⟨i, g, es⟩ := q
    cases vparts with
    | nil => exact hp.elim
    | cons p vs =>
      obtain ⟨i', v⟩ := p
      obtain ⟨rfl, hv, hp⟩ := hp
      simp only [rowsOf] at h
      split at h <;> try cases h
      rename_i hc
      obtain ⟨rfl, hes⟩ := hc
      obtain ⟨rows', h3, rfl⟩ := Option.map_eq_some_iff.1 h
      have hcells := hv.cells
      have hlen : es.length = v.cells.size := by have := hcells.1; simpa using this
      have h2' : rest.length = sz + l.length * sz := by rw [h2, List.length_cons, Nat.succ_mul, Nat.add_comm]
      obtain ⟨r1, r2, us, r3, r4⟩ := ih (pre := pre ++ v.cells.toList) (rest := rest.drop sz) h3 hp (by simp [h1, ← hlen, hes, Nat.succ_mul]) (by simp [h2'])
      refine ⟨by simpa [hes] using r1, by simp [r2], v.cells.toList ++ us, ?_, RepL.append hcells r4⟩
      have hstep : Instr.fill (fun i => some (i * sz, sz)) (pre ++ rest).toArray ((i', v) :: vs) = Instr.fill (fun i => some (i * sz, sz)) (v.cells.zipIdx.foldl (fun cs (p : Value × Nat) => cs.setIfInBounds (i' * sz + p.2) p.1) (pre ++ rest).toArray) vs := by
        rw [Instr.fill]
        simp only []
        rw [if_neg (by simp [h1, h2', ← hlen, hes])]
      have hz : v.cells.zipIdx.foldl (fun cs (p : Value × Nat) => cs.setIfInBounds (i' * sz + p.2) p.1) (pre ++ rest).toArray = (pre ++ v.cells.toList ++ rest.drop sz).toArray := by
        have e1 : v.cells.zipIdx.foldl (fun cs (p : Value × Nat) => cs.setIfInBounds (i' * sz + p.2) p.1) (pre ++ rest).toArray = (v.cells.toList.zipIdx 0).foldl (fun cs (p : Value × Nat) => cs.setIfInBounds (i' * sz + p.2) p.1) (pre ++ rest).toArray := by
          rw [← Array.foldl_toList, Array.toList_zipIdx]
        rw [e1]
        apply Array.ext'
        rw [fold_set _ 0 _ _ (by simp [h1, h2', ← hlen, hes])]
        simp only [Nat.add_zero, Array.length_toList, ← hlen, hes]
        have t1 : (pre ++ rest).take (i' * sz) = pre := List.take_left' h1
        have t2 : (pre ++ rest).drop (i' * sz + sz) = rest.drop sz := by rw [← h1]; simp [List.drop_append]
        rw [t1, t2]
      rw [hstep, hz, r3]
      simp

theorem eBuildSlice_wp (inv : Inv w0 ext I s ts w) {t : TypeId} {len : Nat} {parts : Array (Nat × Operand)} {d : Nat} {K : S → Prop} (h : eBuildSlice P d t len parts.toList s K) (hlt : d < s.n) (hop : o.op = .buildSlice t len parts)
    (hd : o.dst = some d) (k : Next w0 ext I d ts ds K next) : o.wp P ⟨ts, ds⟩ w next Q := by
  unfold eBuildSlice at h
  split at h <;> try exact h.elim
  rename_i e sz bytes z s' l he hf
  obtain ⟨i, zv, hu, hi, hz, hcd, hsz, hby, hzl⟩ := elemT_inv he
  split at h <;> try exact h.elim
  rename_i rows hrows
  obtain ⟨hsz0, hlen, hlm, hmax, hK⟩ := h
  obtain ⟨I2, h1, h2, h3, h4, h5, h6⟩ := frzs_sound (ds := ds) inv hf
  have hzs : zv.cells.size = sz := by have := (cDs_sound (w := w) (I := I) hcd).1; simp at this; omega
  -- the initial cells
  have hrl : rows.length = l.length := by
    have : ∀ {l : List (Nat × Arg)} {k : Nat} {rows : List (List D)}, rowsOf sz k l = some rows → rows.length = l.length := by
      intro l
      induction l with
      | nil => intro k rows h; simp [rowsOf] at h; subst h; rfl
      | cons q l ih =>
        intro k rows h
        obtain ⟨i, g, es⟩ := q
        simp only [rowsOf] at h
        split at h <;> try cases h
        obtain ⟨rows', h3, rfl⟩ := Option.map_eq_some_iff.1 h
        simp [ih h3]
    exact this hrows
  obtain ⟨init, hinit, hil⟩ : ∃ init : List Value, ((Array.range (len * sz)).map (fun j => (if len * sz = 0 then (#[] : Array Value) else zv.cells)[j % (if len * sz = 0 then (#[] : Array Value) else zv.cells).size]!)) = init.toArray ∧ init.length = l.length * sz :=
    ⟨_, (Array.toArray_toList).symm, by simp [← hrl, hlen]⟩
  obtain ⟨r1, r2, us, r3, r4⟩ := rowsOf_sound (pre := []) (rest := init) hrows h4 (by simp) hil
  simp only [List.nil_append] at r3
  have hus : us.length = len * sz := by
    have := r4.1
    rw [length_flatten r1, hlen] at this
    exact this.symm
  have hrun : (Instr.buildSlice t len (parts.map fun (i, x) => (i, Act.eval ⟨ts, ds⟩ x))).run P w = .ok (.slice (some ⟨w.heap.size, 0, none⟩) len len) (w.alloc (.cells us.toArray e)) := by
    unfold Instr.buildSlice
    simp only [Sem.run_bind, run_underlying hu, Result.andThen_ok, run_sizeOf' hi, show P.cellsOf e = sz by simp [Program.cellsOf, hi, hsz]]
    rw [if_neg (show ¬ (len * sz > 2 ^ 24) by omega)]
    rw [← parts_map] at r3
    by_cases h0 : len * sz = 0
    · simp only [if_pos h0] at hinit ⊢
      simp only [Sem.run_bind, Sem.run_pure, Result.andThen_ok]
      rw [hinit, r3]
      simp [newRow]
    · simp only [if_neg h0] at hinit ⊢
      have hzr : (zeroValue e).run P w = .ok zv w := by simp [zeroValue, typeInfo, hi, hz]
      simp only [Sem.run_bind, hzr, Sem.run_pure, Result.andThen_ok]
      rw [hinit, r3]
      simp [newRow]
  have hown : (w.alloc (.cells us.toArray e)).ownsRow 0 e sz (.slice (some ⟨w.heap.size, 0, none⟩) len len) len us := by
    have := World.ownsRow_lit (base := 0) (e := e) (size := sz) w us.toArray len (Nat.zero_le _) (by simp only [maxLen]; omega) (by simpa using hus)
    simpa using this
  have hfr := Fr.alloc w (.cells us.toArray e)
  have inv2 := h3.grow hfr
  have hnew := old_blocks h3 hfr (Nat.le_refl w.heap.size)
  refine wp_value (v := .slice (some ⟨w.heap.size, 0, none⟩) len len) (w' := w.alloc (.cells us.toArray e)) ?_ ?_
  · simp only [execOp, hop, Sem.run_bind, hrun, Result.andThen_ok, Sem.run_pure]
  · rw [hd, Act.put_some]
    refine k I2 _ _ _ hK h1 h2 (put_new inv2 (by rw [h5]; exact hlt) (.inr ⟨hsz0, e, us, by rw [hlen]; exact hown, r1, r4.mono (fun b hb => hfr.block b (h3.Ilt b hb) (fun e => e)) (fun _ e => e)⟩) (fun b hb => ?_))
    simp only [Value.ownBlock, Option.some.injEq] at hb
    subst hb
    exact hnew

end

end Go.Ax

/- Making, appending, storing; a new variable; a call that is handed what somebody owns. -/
set_option linter.unusedVariables false
set_option linter.unusedSimpArgs false
namespace Go.Ax
open Go

section
variable {P : Program} {w0 w : World} {ext I : Nat → Prop} {s : S} {ts : Array Value} {ds : List Deferred} {o : Oper} {next : Act → World → Prop} {Q : Exit → Act → World → Prop}

theorem replicate_rep {z : List D} {zs : List Value} (h : RepL w I z zs) : ∀ n, RepL w I (List.replicate n z).flatten (List.replicate n zs).flatten
  | 0 => RepL.nil _ _
  | n + 1 => by
    simp only [List.replicate_succ, List.flatten_cons]
    exact RepL.append h (replicate_rep h n)
theorem madeCells_flatten (z : Array Value) (n : Nat) : (madeCells z (n * z.size)).toList = (List.replicate n z.toList).flatten := by
  apply List.ext_getElem?
  intro j
  have hl : ∀ r ∈ List.replicate n z.toList, r.length = z.size := by intro r hr; rw [(List.mem_replicate.1 hr).2]; simp
  by_cases hj : j < n * z.size
  · have hpos : 0 < z.size := by
      rcases Nat.eq_zero_or_pos z.size with h | h
      · rw [h] at hj; simp at hj
      · exact h
    have hd : j / z.size < n := Nat.div_lt_of_lt_mul (by rw [Nat.mul_comm]; exact hj)
    have hm : j % z.size < z.size := Nat.mod_lt _ hpos
    have e : j = j / z.size * z.size + j % z.size := by have := Nat.div_add_mod j z.size; rw [Nat.mul_comm] at this; omega
    have e2 : (List.replicate n z.toList).flatten[j]? = (List.replicate n z.toList).flatten[j / z.size * z.size + j % z.size]? := by rw [← e]
    rw [e2, getElem?_flatten hl (by simpa using hd) hm]
    simp [madeCells, hj, List.getElem?_replicate, hd, hm]
  · have : (List.replicate n z.toList).flatten.length = n * z.size := by rw [length_flatten hl]; simp
    rw [List.getElem?_eq_none (by simp [madeCells]; omega), List.getElem?_eq_none (by omega)]

theorem run_make_room (base : Nat) (t e : TypeId) (i : TypeInfo) (z : Value) (sz : Nat) (ht : P.underlying t = some (.slice e)) (hi : P.info? e = some i) (hz : i.zero = some z) (hsize : i.size = sz) (hzs : z.cells.size = sz)
    (kl kc : IntKind) (n m : Nat) (hnm : n ≤ m) (hbytes : i.bytes * m ≤ 281474976710656) (h63 : m ≤ maxLen) (hbase : base ≤ w.heap.size) :
    ∃ w', (Instr.makeSlice t (.int kl (n : Int)) (.int kc (m : Int))).run P w = .ok (.slice (some ⟨w.heap.size, 0, none⟩) n m) w' ∧
      w'.ownsRow base e sz (.slice (some ⟨w.heap.size, 0, none⟩) n m) n (List.replicate n z.cells.toList).flatten ∧ w.grownBy w' none := by
  subst hsize
  have h63' : (m : Int) ≤ 9223372036854775807 := by
    have h := h63
    simp [maxLen] at h
    omega
  have hb' : (i.bytes : Int) * (m : Int) ≤ 281474976710656 := by
    have h : ((i.bytes * m : Nat) : Int) ≤ 281474976710656 := by omega
    rwa [Int.natCast_mul] at h
  have hr := run_make (P := P) w t e i z ht hi hz kl kc n m (by omega) (by omega) hb' h63'
  simp only [Int.toNat_natCast] at hr
  have hl : ∀ k, (List.replicate k z.cells.toList).flatten.length = k * i.size := fun k => by
    rw [length_flatten (sz := i.size) (by intro r hr; rw [(List.mem_replicate.1 hr).2]; simpa using hzs)]; simp
  refine ⟨_, hr, ⟨hl n, .inr ⟨w.heap.size, m, madeCells z.cells (m * i.size), rfl, hbase, by show (w.heap.push _)[w.heap.size]? = _; simp, hnm, h63, size_madeCells _ _, ?_⟩⟩, World.grownBy_alloc w _ none⟩
  rw [← hzs, madeCells_flatten]
  obtain ⟨d, rfl⟩ := Nat.exists_eq_add_of_le hnm
  rw [← List.replicate_append_replicate, List.flatten_append, hzs, ← hl n, List.take_left]
theorem eMake_wp (inv : Inv w0 ext I s ts w) {t : TypeId} {l c : Operand} {d : Nat} {K : S → Prop} (h : eMake P d t l c s K) (hlt : d < s.n) (hop : o.op = .makeSlice t l c)
    (hd : o.dst = some d) (k : Next w0 ext I d ts ds K next) : o.wp P ⟨ts, ds⟩ w next Q := by
  unfold eMake at h
  split at h <;> try exact h.elim
  rename_i e sz bytes z kl n kc m he el ec
  obtain ⟨hsz0, h0, hnm, hb, hm, hK⟩ := h
  obtain ⟨i, zv, hu, hi, hz, hcd, hsz, hby, hzl⟩ := elemT_inv he
  obtain ⟨n', rfl⟩ := Int.eq_ofNat_of_zero_le h0
  obtain ⟨m', rfl⟩ := Int.eq_ofNat_of_zero_le (Int.le_trans h0 hnm)
  have hzs : zv.cells.size = sz := by have := (cDs_sound (w := w) (I := I) hcd).1; simp at this; omega
  obtain ⟨w', hrun, hown, hg⟩ := run_make_room (P := P) (w := w) 0 t e i zv sz hu hi hz hsz hzs kl kc n' m' (by omega) (by rw [hby]; omega) (by simp only [maxLen]; omega) (Nat.zero_le _)
  have hfr := Fr.of_grown hg
  have inv2 := inv.grow hfr
  have hnew := old_blocks inv hfr (Nat.le_refl w.heap.size)
  have hzr : RepL w I z zv.cells.toList := cDs_sound hcd
  refine wp_value (v := .slice (some ⟨w.heap.size, 0, none⟩) n' m') (w' := w') ?_ ?_
  · simp only [execOp, hop, Sem.run_bind, ev_v (ds := ds) inv el, ev_v (ds := ds) inv ec, hrun, Result.andThen_ok, Sem.run_pure]
  · rw [hd, Act.put_some]
    refine k I _ _ _ hK (fun _ e => e) (fun _ e => .inl e) (put_new inv2 hlt (.inr ⟨hsz0, e, _, by simpa using hown, fun r hr => by rw [(List.mem_replicate.1 hr).2, hzl], ?_⟩) (fun b hb => ?_))
    · simp only [Int.toNat_natCast]
      exact (replicate_rep hzr n').mono (fun b hb => hfr.block b (inv.Ilt b hb) (fun e => e)) (fun _ e => e)
    · simp only [Value.ownBlock, Option.some.injEq] at hb
      subst hb
      exact hnew

theorem leafZ_sound : ∀ {vs : List Value} {ls : List Leaf}, leafZ vs = some ls → vs.length = ls.length ∧ ∀ (j : Nat) (lf : Leaf), ls[j]? = some lf → ∃ v, vs[j]? = some v ∧ RepLf w I v lf ∧ (∀ sz rows, lf = .own sz rows → v.ownBlock = none) := by
  intro vs
  induction vs with
  | nil => intro ls h; simp [leafZ] at h; subst h; simp
  | cons v vs ih =>
    intro ls h
    simp only [leafZ] at h
    split at h <;> try cases h
    · rename_i rows ls' h1 h2
      obtain ⟨k1, k2⟩ := ih h2
      refine ⟨by simp [k1], fun j lf hj => ?_⟩
      cases j with
      | zero =>
        simp only [List.getElem?_cons_zero, Option.some.injEq] at hj
        subst hj
        have hv : v = .slice none 0 0 := by
          unfold cD at h1
          split at h1 <;> first
            | rfl
            | cases h1
        subst hv
        exact ⟨_, rfl, OwnL.nil w I _, fun _ _ _ => rfl⟩
      | succ j => simpa using k2 j lf (by simpa using hj)
    · rename_i x ls' h1 h2
      obtain ⟨k1, k2⟩ := ih h2
      refine ⟨by simp [k1], fun j lf hj => ?_⟩
      cases j with
      | zero =>
        simp only [List.getElem?_cons_zero, Option.some.injEq] at hj
        subst hj
        exact ⟨_, rfl, cD_sound h1, fun _ _ e => by cases e⟩
      | succ j => simpa using k2 j lf (by simpa using hj)

/-- A new variable, put into a slot. -/
theorem put_box (inv : Inv w0 ext I s ts w) {d : Nat} (hlt : d < s.n) {cs : Array Value} {e : TypeId} {cells : List Leaf} (hl : cs.size = cells.length)
    (h : ∀ (j : Nat) (lf : Leaf), cells[j]? = some lf → RepLf w I (cs.getD j undef) lf ∧ (∀ sz rows, lf = .own sz rows → (cs.getD j undef).ownBlock = none)) :
    Inv w0 ext I (s.put d (.box cells)) (ts.setIfInBounds d (.pointer (some ⟨w.heap.size, 0, none⟩))) (w.alloc (.cells cs e)) := by
  have hfr := Fr.alloc w (.cells cs e)
  have inv2 := inv.grow hfr
  obtain ⟨n1, n2, n3⟩ := old_blocks inv hfr (Nat.le_refl w.heap.size)
  have hold : ∀ b, I b → (w.alloc (.cells cs e)).heap[b]? = w.heap[b]? := fun b hb => hfr.block b (inv.Ilt b hb) (fun e => e)
  have hbk : ∀ i b, (T.box cells).blocks (w.alloc (.cells cs e)) (.pointer (some ⟨w.heap.size, 0, none⟩)) i = some b → i = 0 ∧ b = w.heap.size := by
    intro i b hb
    unfold T.blocks at hb
    dsimp only at hb
    split at hb
    · rename_i h0
      exact ⟨h0, by simpa [ptrBlock] using hb.symm⟩
    · exfalso
      split at hb
      · rename_i sz rows b' h1 h2
        have hlt' : i - 1 < cs.size := by rw [hl]; exact (List.getElem?_eq_some_iff.1 h1).1
        simp only [ptrBlock, Option.some.injEq] at h2
        subst h2
        have hn := (h _ _ h1).2 sz rows rfl
        simp only [Array.getD_eq_getD_getElem?, Array.getElem?_eq_getElem hlt', Option.getD_some] at hn
        simp [World.cell?_alloc_new, Array.getElem?_eq_getElem hlt', hn] at hb
      · cases hb
  refine inv2.put hlt ⟨w.heap.size, e, cs, rfl, heap_alloc_new w _, hl, fun j lf hj => ?_⟩ (fun i b hb => ?_) (fun i j b h1 h2 => ?_) (fun y e => by cases e) (fun _ => rfl)
  · obtain ⟨h1, h2⟩ := h j lf hj
    exact RepLf.mono hold (fun _ e => e) (fun sz rows e b hb => by rw [h2 sz rows e] at hb; cases hb) h1
  · obtain ⟨h0, rfl⟩ := hbk i b hb
    exact ⟨n1, by simp, n2, fun y j _ => n3 y j⟩
  · rw [(hbk i b h1).1, (hbk j b h2).1]

theorem alloc_wp (inv : Inv w0 ext I s ts w) {e : TypeId} {d : Nat} {cells : List Leaf} {K : S → Prop} (hz : zeroT P e = some cells) (h : K (s.put d (.box cells))) (hlt : d < s.n) (hop : o.op = .alloc e)
    (hd : o.dst = some d) (k : Next w0 ext I d ts ds K next) : o.wp P ⟨ts, ds⟩ w next Q := by
  unfold zeroT at hz
  cases hi : P.info? e with
  | none => rw [hi] at hz; cases hz
  | some i =>
    rw [hi] at hz
    cases hzv : i.zero with
    | none => simp [hzv] at hz
    | some zv =>
      have hlz : leafZ zv.cells.toList = some cells := by simpa [hzv] using hz
      obtain ⟨l1, l2⟩ := leafZ_sound (w := w) (I := I) hlz
      refine wp_value (v := .pointer (some ⟨w.heap.size, 0, none⟩)) (w' := w.alloc (.cells zv.cells e)) ?_ ?_
      · simp [execOp, hop, Instr.alloc, zeroValue, typeInfo, hi, hzv, newVar, newRow]
      · rw [hd, Act.put_some]
        refine k I _ _ _ h (fun _ e => e) (fun _ e => .inl e) (put_box inv hlt (by simpa using l1) fun j lf hj => ?_)
        obtain ⟨v, h1, h2, h3⟩ := l2 j lf hj
        have e1 : zv.cells.getD j undef = v := by
          rw [Array.getElem?_toList] at h1
          simp [Array.getD_eq_getD_getElem?, h1]
        rw [e1]
        exact ⟨h2, h3⟩

theorem box_wp (inv : Inv w0 ext I s ts w) {e : TypeId} {x : Operand} {d : Nat} {s' : S} {g : Bool} {es : List D} {K : S → Prop} (hf : frz s x = some (s', (g, es))) (h : K (s'.put d (.box (es.map Leaf.d)))) (hlt : d < s.n) (hop : o.op = .box e x)
    (hd : o.dst = some d) (k : Next w0 ext I d ts ds K next) : o.wp P ⟨ts, ds⟩ w next Q := by
  obtain ⟨I2, h1, h2, h3, h4, h5, h6⟩ := frz_sound (ds := ds) inv hf
  have hc := h4.cells
  refine wp_value (v := .pointer (some ⟨w.heap.size, 0, none⟩)) (w' := w.alloc (.cells (Act.eval ⟨ts, ds⟩ x).cells e)) ?_ ?_
  · simp [execOp, hop, Instr.box, newVar, newRow]
  · rw [hd, Act.put_some]
    refine k I2 _ _ _ h h1 h2 (put_box h3 (by rw [h5]; exact hlt) (by have := hc.1; simp at this; simp [this]) fun j lf hj => ?_)
    rw [List.getElem?_map] at hj
    cases hd' : es[j]? with
    | none => rw [hd'] at hj; cases hj
    | some dd =>
      rw [hd'] at hj
      simp only [Option.map_some, Option.some.injEq] at hj
      subst hj
      obtain ⟨v, e1, e2⟩ := hc.at hd'
      rw [Array.getElem?_toList] at e1
      have e3 : (Act.eval ⟨ts, ds⟩ x).cells.getD j undef = v := by simp [Array.getD_eq_getD_getElem?, e1]
      rw [e3]
      exact ⟨e2, fun _ _ e => by cases e⟩

theorem extract_wp (inv : Inv w0 ext I s ts w) {t j d : Nat} {cs : List Comp} {sz : Nat} {rows : List (List D)} {K : S → Prop} (hg : s.get t = .tup cs) (hv : s.isVar t = false) (hj : cs[j]? = some (.one (.own sz rows)))
    (h : K ((s.putT t (.tup (cs.set j (.one .hole)))).put d (.own sz rows))) (hlt : d < s.n) (htn : t < s.n) (hop : o.op = .extract (.tmp t) j)
    (hd : o.dst = some d) (k : Next w0 ext I d ts ds K next) : o.wp P ⟨ts, ds⟩ w next Q := by
  have hr := inv.rep t
  rw [hg] at hr
  obtain ⟨vs, h1, h2, h3⟩ := hr
  have hlt' : j < vs.size := by rw [h2]; exact (List.getElem?_eq_some_iff.1 hj).1
  have hrep := h3 j _ hj
  have e1 : vs.getD j undef = vs[j] := by simp [Array.getD_eq_getD_getElem?, Array.getElem?_eq_getElem hlt']
  rw [e1] at hrep
  have hbt : (s.get t).blocks w (val ts t) j = vs[j].ownBlock := by rw [hg, h1]; simp [T.blocks, hj, Array.getElem?_eq_getElem hlt']
  have hdata : (execOp (Act.eval ⟨ts, ds⟩) o).run P w = .ok (.value vs[j]) w := by
    have : Act.eval ⟨ts, ds⟩ (.tmp t) = .tuple vs := h1
    simp [execOp, hop, this, Instr.extract, Array.getElem?_eq_getElem hlt']
  -- the tuple without what it hands out
  let cs' := cs.set j (.one .hole)
  have hsub : ∀ i b, (T.tup cs').blocks w (val ts t) i = some b → (s.get t).blocks w (val ts t) i = some b ∧ i ≠ j := by
    intro i b e
    have hij : i ≠ j := by
      rintro rfl
      have hl : i < cs.length := (List.getElem?_eq_some_iff.1 hj).1
      unfold T.blocks at e
      dsimp only at e
      rw [show cs'[i]? = some (.one .hole) from by simp [cs', hl]] at e
      cases e
    refine ⟨?_, hij⟩
    rw [hg]
    unfold T.blocks at e ⊢
    dsimp only at e ⊢
    rw [show cs'[i]? = cs[i]? from by simp [cs', List.getElem?_set, Ne.symm hij]] at e
    exact e
  have hrep' : RepV w I (val ts) (val ts t) (.tup cs') := by
    refine ⟨vs, h1, by simp [cs', h2], fun i c hc => ?_⟩
    by_cases hij : i = j
    · subst hij
      have hl : i < cs.length := (List.getElem?_eq_some_iff.1 hj).1
      rw [show cs'[i]? = some (.one .hole) from by simp [cs', hl]] at hc
      cases hc
      trivial
    · rw [show cs'[i]? = cs[i]? from by simp [cs', List.getElem?_set, Ne.symm hij]] at hc
      exact h3 i c hc
  have hself : ts.setIfInBounds t (val ts t) = ts := by
    apply Array.ext'
    rw [Array.toList_setIfInBounds]
    apply List.ext_getElem?
    intro i
    rw [List.getElem?_set]
    split
    · rename_i hti
      subst hti
      have : t < ts.size := by rw [inv.size]; exact htn
      simp [val, this]
    · rfl
  have inv1 : Inv w0 ext I (s.putT t (.tup cs')) ts w := by
    have := inv.putT' (t := .tup cs') (v := val ts t) htn hv hrep' (fun i b e => by
      obtain ⟨e2, hij⟩ := hsub i b e
      obtain ⟨a1, a2, a3⟩ := inv.away t i b e2
      exact ⟨a1, a2, a3, fun y i' hy e3 => hy (inv.inj y i' t i b e3 e2).1⟩) (fun i i' b e2 e3 => (inv.inj t i t i' b (hsub i b e2).1 (hsub i' b e3).1).2) (fun y e => by cases e)
    rwa [hself] at this
  refine wp_value hdata ?_
  rw [hd, Act.put_some]
  have hget : ∀ y, (s.putT t (.tup cs')).get y = if t = y then .tup cs' else s.get y := S.get_putT s t _
  refine k I _ w _ h (fun _ e => e) (fun _ e => .inl e) (put_new inv1 hlt hrep (fun b hb => ?_))
  have e2 : (s.get t).blocks w (val ts t) j = some b := by rw [hbt]; exact hb
  obtain ⟨a1, a2, a3⟩ := inv.away t j b e2
  refine ⟨a1, ?_, fun y i e3 => ?_⟩
  · exact a3
  · rw [hget] at e3
    split at e3
    · rename_i hty
      subst hty
      obtain ⟨e4, hij⟩ := hsub i b e3
      exact hij (inv.inj t i t j b e4 e2).2
    · rename_i hne
      exact hne (inv.inj y i t j b e3 e2).1.symm

end

end Go.Ax

/- Appending and storing. -/
set_option linter.unusedVariables false
set_option linter.unusedSimpArgs false
namespace Go.Ax
open Go

section
variable {P : Program} {w0 w : World} {ext I : Nat → Prop} {s : S} {ts : Array Value} {ds : List Deferred} {o : Oper} {next : Act → World → Prop} {Q : Exit → Act → World → Prop}

theorem flatten_map_range {vals : Nat → Nat → Value} {rows : List (List D)} {sz : Nat} (hl : ∀ r ∈ rows, r.length = sz) (hv : ∀ (i : Nat) (r : List D), rows[i]? = some r → ∀ (j : Nat) (d : D), r[j]? = some d → RepD w I d (vals i j)) :
    RepL w I rows.flatten ((List.range rows.length).map fun i => (List.range sz).map (vals i)).flatten := by
  have hl2 : ∀ r ∈ (List.range rows.length).map (fun i => (List.range sz).map (vals i)), r.length = sz := by
    intro r hr
    obtain ⟨i, _, rfl⟩ := List.mem_map.1 hr
    simp
  refine ⟨by rw [length_flatten hl, length_flatten hl2]; simp, fun j d v h1 h2 => ?_⟩
  have hj : j < rows.length * sz := by rw [← length_flatten hl]; exact (List.getElem?_eq_some_iff.1 h1).1
  have hpos : 0 < sz := by
    rcases Nat.eq_zero_or_pos sz with h | h
    · rw [h] at hj; simp at hj
    · exact h
  have hd : j / sz < rows.length := Nat.div_lt_of_lt_mul (by rw [Nat.mul_comm]; exact hj)
  have hm : j % sz < sz := Nat.mod_lt _ hpos
  have e : j = j / sz * sz + j % sz := by have := Nat.div_add_mod j sz; rw [Nat.mul_comm] at this; omega
  rw [e, getElem?_flatten hl hd hm] at h1
  rw [e, getElem?_flatten hl2 (by simpa using hd) hm] at h2
  simp [hd, hm] at h2
  subst h2
  rw [List.getElem?_eq_getElem hd] at h1
  exact hv _ _ (List.getElem?_eq_getElem hd) _ _ h1

theorem own_news {u : Value} {rows : List (List D)} {sz : Nat} (h : OwnL w I u sz rows) : ∃ a cap news, u = .slice a rows.length cap ∧ RepL w I rows.flatten news ∧
    (rows ≠ [] → ∃ b o, a = some ⟨b, o, none⟩ ∧ ∀ (j : Nat) (v : Value), news[j]? = some v → w.cell? ⟨b, o + j, none⟩ = some v) := by
  rcases h with ⟨rfl, rfl⟩ | ⟨h0, e, xs, h1, h2, h3⟩
  · exact ⟨none, 0, [], rfl, RepL.nil _ _, fun e => absurd rfl e⟩
  rcases h1.2 with ⟨rfl, hn⟩ | ⟨g, cap, cur, rfl, hr⟩
  · obtain rfl : rows = [] := List.eq_nil_of_length_eq_zero hn
    exact ⟨none, 0, xs, rfl, h3, fun e => absurd rfl e⟩
  · refine ⟨_, cap, xs, rfl, h3, fun hne => ⟨g, 0, rfl, fun j v hj => ?_⟩⟩
    have hlt : j < xs.length := (List.getElem?_eq_some_iff.1 hj).1
    rw [Nat.zero_add, h1.cellAt j (by rw [← h1.1]; exact hlt)]
    exact hj
theorem ro_news {u : Value} {rows : List (List D)} {sz : Nat} (h : RepD w I (.l rows) u) (hs : ∀ r ∈ rows, r.length = sz) : ∃ a cap news, u = .slice a rows.length cap ∧ RepL w I rows.flatten news ∧
    (rows ≠ [] → ∃ b o, a = some ⟨b, o, none⟩ ∧ ∀ (j : Nat) (v : Value), news[j]? = some v → w.cell? ⟨b, o + j, none⟩ = some v) := by
  cases h with
  | l _ sz' a cap vals hl hc hm ha hv =>
    refine ⟨a, cap, _, rfl, flatten_map_range hl hv, fun hne => ?_⟩
    obtain ⟨b, o, h1, h2, h3⟩ := ha hne
    refine ⟨b, o, h1, fun j v hj => ?_⟩
    have hl2 : ∀ r ∈ (List.range rows.length).map (fun i => (List.range sz').map (vals i)), r.length = sz' := by
      intro r hr
      obtain ⟨i, _, rfl⟩ := List.mem_map.1 hr
      simp
    have hjl : j < rows.length * sz' := by
      have := (List.getElem?_eq_some_iff.1 hj).1
      rw [length_flatten hl2] at this
      simpa using this
    have hpos : 0 < sz' := by
      rcases Nat.eq_zero_or_pos sz' with h | h
      · rw [h] at hjl; simp at hjl
      · exact h
    have hd : j / sz' < rows.length := Nat.div_lt_of_lt_mul (by rw [Nat.mul_comm]; exact hjl)
    have hmm : j % sz' < sz' := Nat.mod_lt _ hpos
    have e : j = j / sz' * sz' + j % sz' := by have := Nat.div_add_mod j sz'; rw [Nat.mul_comm] at this; omega
    rw [e, getElem?_flatten hl2 (by simpa using hd) hmm] at hj
    simp [hd, hmm] at hj
    subst hj
    have := h3 _ _ hd hmm
    rw [← this]
    congr 2
    omega

theorem lst_news (inv : Inv w0 ext I s ts w) {x : Operand} {rows : List (List D)} {sz : Nat} (h : (ev s x).lst = some rows) (hs : ∀ r ∈ rows, r.length = sz) : ∃ a cap news, Act.eval ⟨ts, ds⟩ x = .slice a rows.length cap ∧ RepL w I rows.flatten news ∧
    (rows ≠ [] → ∃ b o, a = some ⟨b, o, none⟩ ∧ ∀ (j : Nat) (v : Value), news[j]? = some v → w.cell? ⟨b, o + j, none⟩ = some v) := by
  have hr := opd_sound (ds := ds) inv x
  have et : (ev s x).t = opd s x := rfl
  unfold R.lst at h
  rw [et] at h
  split at h
  · rename_i e1; cases h
    rw [e1] at hr
    exact ro_news hr hs
  · rename_i e1; cases h
    rw [e1] at hr
    exact own_news hr
  · rename_i y _ _ e1 e2; cases h
    rw [e1] at hr
    obtain ⟨_, h2⟩ := ev_c inv x (y := y) (by rw [et, e1]; rfl)
    rw [e2] at h2
    rw [show Act.eval ⟨ts, ds⟩ x = val ts y from hr]
    exact own_news h2
  · rename_i y _ e1 e2; cases h
    rw [e1] at hr
    obtain ⟨_, h2⟩ := ev_c inv x (y := y) (by rw [et, e1]; rfl)
    rw [e2] at h2
    rw [show Act.eval ⟨ts, ds⟩ x = val ts y from hr]
    exact ro_news h2 hs
  · rename_i y off cells e1 e2
    split at h
    · rename_i sz' rows' e3
      cases h
      rw [e1] at hr
      obtain ⟨_, h2⟩ := ev_c inv x (y := y) (by rw [et, e1]; rfl)
      rw [e2] at h2
      obtain ⟨b, f1, f2⟩ := hr
      obtain ⟨b', e, cs, g1, g2, g3, g4⟩ := h2
      rw [f1] at g1
      simp only [Value.pointer.injEq, Option.some.injEq, Addr.mk.injEq, and_true] at g1
      subst g1
      have hlt : off < cs.size := by rw [g3]; exact (List.getElem?_eq_some_iff.1 e3).1
      have hcell := box_cell g2 hlt
      rw [hcell] at f2
      have g5 := g4 off _ e3
      rw [Option.some.inj f2] at g5
      exact own_news g5
    · cases h
  · cases h

/-- What is appended to: nobody owns it any more. -/
theorem take1_sound (inv : Inv w0 ext I s ts w) {x : Operand} {s' : S} {sz : Nat} {rows : List (List D)} (h : take1 s x = some (s', sz, rows)) :
    Inv w0 ext I s' ts w ∧ OwnL w I (Act.eval ⟨ts, ds⟩ x) sz rows ∧ (∀ b, (Act.eval ⟨ts, ds⟩ x).ownBlock = some b → ¬ I b ∧ Mine w0 ext b ∧ ∀ y j, (s'.get y).blocks w (val ts y) j ≠ some b) ∧ s'.n = s.n ∧ ∀ y, s'.isVar y = s.isVar y := by
  have hr := opd_sound (ds := ds) inv x
  have et : (ev s x).t = opd s x := rfl
  unfold take1 at h
  rw [et] at h
  split at h
  · rename_i y sz' rows' e1 e2
    cases h
    rw [e1] at hr
    obtain ⟨h1, h2⟩ := ev_c inv x (y := y) (by rw [et, e1]; rfl)
    rw [e2] at h1 h2
    have hv : s.isVar y = true := opd_target inv x (by rw [e1]; rfl)
    have hr : Act.eval ⟨ts, ds⟩ x = val ts y := hr
    have hget := S.get_upd s y .none hv (inv.vtgt y hv).1
    refine ⟨inv.lose hv, by rw [hr]; exact h2, fun b hb => ?_, rfl, fun z => S.upd_isVar s y _ z⟩
    have hb' : (s.get y).blocks w (val ts y) 0 = some b := by rw [← h1, ← hr]; simpa [T.blocks] using hb
    obtain ⟨a1, a2, a3⟩ := inv.away y 0 b hb'
    refine ⟨a1, ?_, fun z j e => ?_⟩
    · exact a3
    · rw [hget] at e
      split at e
      · simp [T.blocks] at e
      · rename_i hne; exact hne (inv.inj y 0 z j b hb' e).1
  · rename_i sz' rows' e1
    obtain ⟨t, rfl, hg, hv⟩ := opd_own e1
    cases h
    rw [e1] at hr
    have hget : ∀ y, (s.drop t).get y = if t = y then .none else s.get y := fun y => S.get_putT s t .none y
    refine ⟨inv.drop hv, hr, fun b hb => ?_, rfl, fun _ => rfl⟩
    have hb' : (s.get t).blocks w (val ts t) 0 = some b := by rw [hg]; simp only [T.blocks, if_true]; exact hb
    obtain ⟨a1, a2, a3⟩ := inv.away t 0 b hb'
    refine ⟨a1, ?_, fun z j e => ?_⟩
    · exact a3
    · rw [hget] at e
      split at e
      · simp [T.blocks] at e
      · rename_i hne; exact hne (inv.inj t 0 z j b hb' e).1
  · rename_i y off cells e1 e2
    split at h
    · rename_i sz' rows' e3
      cases h
      rw [e1] at hr
      obtain ⟨h1, h2⟩ := ev_c inv x (y := y) (by rw [et, e1]; rfl)
      rw [e2] at h1 h2
      have hv : s.isVar y = true := opd_target inv x (by rw [e1]; rfl)
      have hget := S.get_upd s y (.box (cells.set off .hole)) hv (inv.vtgt y hv).1
      obtain ⟨b, f1, f2⟩ := hr
      obtain ⟨b', e, cs, g1, g2, g3, g4⟩ := h2
      rw [f1] at g1
      simp only [Value.pointer.injEq, Option.some.injEq, Addr.mk.injEq, and_true] at g1
      subst g1
      have hlt : off < cs.size := by rw [g3]; exact (List.getElem?_eq_some_iff.1 e3).1
      have hcell := box_cell g2 hlt
      rw [hcell] at f2
      have f2 := Option.some.inj f2
      have g5 := g4 off _ e3
      rw [f2] at g5
      have hsub : ∀ i c, (T.box (cells.set off .hole)).blocks w (val ts y) i = some c → (s.get y).blocks w (val ts y) i = some c ∧ i ≠ off + 1 := by
        intro i c hb
        rw [← h1]
        unfold T.blocks at hb ⊢
        dsimp only at hb ⊢
        split at hb
        · rename_i h0; subst h0; exact ⟨by simpa using hb, by omega⟩
        · rename_i h0
          by_cases ho : i - 1 = off
          · rw [ho] at hb
            have : off < cells.length := (List.getElem?_eq_some_iff.1 e3).1
            simp [this] at hb
          · rw [show (cells.set off .hole)[i - 1]? = cells[i - 1]? from by simp [List.getElem?_set, Ne.symm ho]] at hb
            exact ⟨by rw [if_neg h0]; exact hb, by omega⟩
      refine ⟨inv.upd hv ⟨b, e, cs, f1, g2, by simp [g3], fun j lf hj => ?_⟩ rfl (fun i c hb => ?_) (fun i j c hb1 hb2 => (inv.inj y i y j c (hsub i c hb1).1 (hsub j c hb2).1).2), g5, fun c hc => ?_, rfl, fun z => S.upd_isVar s y _ z⟩
      · rw [List.getElem?_set] at hj
        split at hj
        · split at hj
          · cases hj; trivial
          · cases hj
        · exact g4 j lf hj
      · obtain ⟨hb1, _⟩ := hsub i c hb
        obtain ⟨a1, a2, a3⟩ := inv.away y i c hb1
        exact ⟨a1, a2, a3, fun z j hz e4 => hz (inv.inj z j y i c e4 hb1).1⟩
      · have hc' : (s.get y).blocks w (val ts y) (off + 1) = some c := by
          rw [← h1]; simp [T.blocks, e3, f1, ptrBlock, hcell, f2, hc]
        obtain ⟨a1, a2, a3⟩ := inv.away y (off + 1) c hc'
        refine ⟨a1, ?_, fun z j e4 => ?_⟩
        · exact a3
        · rw [hget] at e4
          split at e4
          · rename_i hyz
            subst hyz
            obtain ⟨e5, e6⟩ := hsub j c e4
            exact e6 (inv.inj y j y (off + 1) c e5 hc').2
          · rename_i hne; exact hne (inv.inj y (off + 1) z j c hc' e4).1
    · cases h
  · rename_i e1
    split at h
    · cases h
      exact ⟨inv, OwnL.nil w I _, fun b hb => by simp [Act.eval, Value.ownBlock] at hb, rfl, fun _ => rfl⟩
    · cases h
  · cases h

/-- append: whatever is owned, whatever is appended. -/
theorem run_append_any {t ty e : TypeId} {i : TypeInfo} {z : Value} {sz : Nat} (ht : P.underlying t = some (.slice e)) (hi : P.info? e = some i) (hz : i.zero = some z) (hsz : i.size = sz) (hzs : z.cells.size = sz) (hpos : 0 < sz)
    {eT : TypeId} {v : Value} {n : Nat} {xs : List Value} (hown : w.ownsRow 0 eT sz v n xs) {a : Option Addr} {m c : Nat} {news : List Value} (hl : news.length = m * sz)
    (hnews : 0 < m → ∃ ad, a = some ad ∧ ∀ (j : Nat) (u : Value), news[j]? = some u → w.cell? (ad.add j) = some u) (h1 : ∀ u ∈ news, u.oneCell' = true) (h63 : n + m ≤ maxLen) (hbytes : (n + m) * i.bytes ≤ 140737488355328) :
    ∃ v' w' e', (Builtin.append_ #[t, t] ty #[v, .slice a m c]).run P w = .ok v' w' ∧ w'.ownsRow 0 e' sz v' (n + m) (xs ++ news) ∧ w.grownBy w' v.ownBlock ∧ (v'.ownBlock = v.ownBlock ∨ v'.ownBlock = some w.heap.size) := by
  subst hsz
  rcases Nat.eq_zero_or_pos m with hm | hm
  · subst hm
    obtain rfl : news = [] := List.eq_nil_of_length_eq_zero (by simpa using hl)
    refine ⟨v, w, eT, ?_, by simpa using hown, World.grownBy.refl w _, .inl rfl⟩
    rcases hown.2 with ⟨rfl, rfl⟩ | ⟨g, cap, cur, rfl, _, hg, hnc, _⟩
    · cases a <;> simp [Builtin.append_, run_underlying ht, sizeOf, typeInfo, hi, Builtin.lenOf, Builtin.firstCells, loadCells, loadCellsFrom]
    · cases a <;> simp [Builtin.append_, run_underlying ht, sizeOf, typeInfo, hi, Builtin.lenOf, Builtin.firstCells, hnc, storeCells, loadCells, loadCellsFrom]
  · obtain ⟨ad, rfl, hcells⟩ := hnews hm
    rcases hown.2 with ⟨rfl, rfl⟩ | ⟨g, cap, cur, rfl, hbg, hg, hnc, hcm, hcs, htake⟩
    · obtain ⟨v', w', r1, r2, r3, _, r5⟩ := run_append_own_at (P := P) w 0 t ty e i z i.size i.bytes ht hi hz rfl rfl hzs hpos (.slice none 0 0) 0 xs ⟨hown.1, .inl ⟨rfl, rfl⟩⟩ ad m c news hl hcells h1 h63 hbytes (Nat.zero_le _)
      exact ⟨v', w', e, r1, r2, r3, r5⟩
    · have hlen : (xs ++ news).length = (n + m) * i.size := by rw [List.length_append, hown.1, hl, Nat.add_mul]
      by_cases hroom : n + m ≤ cap
      · have hfit : n * i.size + news.length ≤ cur.size := by rw [hl, hcs, ← Nat.add_mul]; exact Nat.mul_le_mul_right _ hroom
        have hf := run_firstCells_some (P := P) w i.size m ad m c news hl hcells
        have hst := run_storeCells_at P g (n * i.size) eT news 0 cur w hg (by simpa using hfit) h1
        simp only [Nat.add_zero] at hst
        refine ⟨.slice (some ⟨g, 0, none⟩) (n + m) cap, _, eT, by simp [Builtin.append_, run_underlying ht, sizeOf, typeInfo, hi, Builtin.lenOf, hroom, hf, addr_add, hst]; rfl, ⟨hlen, .inr ⟨g, cap, _, rfl, hbg, setRow_heap w g cur _ eT _ hg, hroom, hcm, ?_, ?_⟩⟩, ⟨rfl, rfl, rfl, by simp [World.setRow], fun k _ hk => setRow_other w g k _ (fun e => hk (by simp [Value.ownBlock, e]))⟩, .inl rfl⟩
        · simp only [List.size_toArray, List.length_append, List.length_take, List.length_drop, Array.length_toList]
          omega
        · rw [htake, ← hlen]
          rw [← List.append_assoc]
          exact List.take_left
      · have holds : ∀ j u, xs[j]? = some u → w.cell? ((⟨g, 0, none⟩ : Addr).add j) = some u := hown.cells (g := g) rfl
        have hsm : n + m ≤ 9223372036854775807 := by simp only [maxLen] at h63; omega
        have hr := run_append_grow (P := P) w t ty e i z ht hi hz ⟨g, 0, none⟩ n cap xs hown.1 holds ad m c news hl hcells (by omega) (by omega) (growslice_fits (by omega) hbytes)
        have hge := grownCap_ge w (n + m) cap e
        have hcm' : grownCap w (n + m) cap e ≤ maxLen := grownCap_le_maxLen w (n + m) cap e h63
        refine ⟨_, _, e, hr, ⟨hlen, .inr ⟨w.heap.size, _, _, rfl, Nat.zero_le _, heap_alloc_new w.drew _, hge, hcm', ?_, ?_⟩⟩, ⟨rfl, rfl, rfl, by simp, fun k hk _ => heap_alloc_old w.drew _ k hk⟩, .inr rfl⟩
        · simp only [Array.size_append, List.size_toArray, size_zeroCells, hzs, hown.1, hl, ← Nat.add_mul]
          congr 1
          omega
        · simp only [Array.toList_append, List.append_assoc]
          rw [← List.append_assoc, ← hlen]
          exact List.take_left

theorem eAppend_wp (inv : Inv w0 ext I s ts w) {t t2 : TypeId} {x y : Operand} {d : Nat} {K : S → Prop} {c : Call} (h : eAppend P d t t2 x y s K) (hlt : d < s.n) (hop : o.op = .call c) (hc : c.callee = .builtin .append) (ha : c.args.toList = [x, y]) (hat : c.argTypes.toList = [t, t2])
    (hd : o.dst = some d) (k : Next w0 ext I d ts ds K next) : o.wp P ⟨ts, ds⟩ w next Q := by
  obtain ⟨rfl, h⟩ := h
  split at h <;> try exact h.elim
  rename_i e sz bytes z s' sz' rows rows2 he ht1 hl
  obtain ⟨hpos, hszz, hr2, hby, hlen, hK⟩ := h
  obtain ⟨i, zv, hu, hi, hz, hcd, hsz, hbt, hzl⟩ := elemT_inv he
  have hzs : zv.cells.size = sz := by have := (cDs_sound (w := w) (I := I) hcd).1; simp at this; omega
  obtain ⟨inv1, hown, hblk, hn, hvar⟩ := take1_sound (ds := ds) inv ht1
  have inv2 := inv1.noC
  obtain ⟨a2, cap2, news, hy, hnews, hcells⟩ := lst_news (ds := ds) inv hl hr2
  have hnl : news.length = rows2.length * sz := by rw [← hnews.1, length_flatten hr2]
  have hnl2 : 0 < rows2.length → ∃ ad, a2 = some ad ∧ ∀ (j : Nat) (u : Value), news[j]? = some u → w.cell? (ad.add j) = some u := by
    intro hp
    obtain ⟨b, o', rfl, h3⟩ := hcells (by rintro rfl; simp at hp)
    exact ⟨_, rfl, fun j u hj => by rw [addr_add]; exact h3 j u hj⟩
  have key : ∃ v1 w1, (Builtin.append_ #[t2, t2] o.type #[Act.eval ⟨ts, ds⟩ x, Act.eval ⟨ts, ds⟩ y]).run P w = .ok v1 w1 ∧ OwnL w1 I v1 sz (rows ++ rows2) ∧ w.grownBy w1 (Act.eval ⟨ts, ds⟩ x).ownBlock ∧ (v1.ownBlock = (Act.eval ⟨ts, ds⟩ x).ownBlock ∨ v1.ownBlock = some w.heap.size) := by
    have hx : ∃ eT xs, w.ownsRow 0 eT sz (Act.eval ⟨ts, ds⟩ x) rows.length xs ∧ (∀ r ∈ rows, r.length = sz) ∧ RepL w I rows.flatten xs := by
      rcases hown with ⟨e1, rfl⟩ | ⟨h0, eT, xs, o1, o2, o3⟩
      · rw [e1]
        exact ⟨0, [], World.ownsRow_nil w 0 0 sz, by simp, RepL.nil _ _⟩
      · rcases hszz with rfl | rfl
        · exact ⟨eT, xs, o1, o2, o3⟩
        · omega
    obtain ⟨eT, xs, o1, o2, o3⟩ := hx
    rw [hy]
    obtain ⟨v1, w1, e1, r1, r2, r3, r4⟩ := run_append_any (P := P) (ty := o.type) hu hi hz hsz hzs hpos o1 (a := a2) (c := cap2) hnl hnl2 hnews.one (by simp only [maxLen]; omega) (by rw [hbt]; exact hby)
    have hIk : ∀ b, I b → w1.heap[b]? = w.heap[b]? := fun b hb => r3.block b (inv.Ilt b hb) (fun e => (hblk b e.symm).1 hb)
    refine ⟨v1, w1, r1, .inr ⟨hpos, e1, xs ++ news, by rw [List.length_append]; exact r2, fun r hr => ?_, ?_⟩, r3, r4⟩
    · rcases List.mem_append.1 hr with hr | hr
      · exact o2 r hr
      · exact hr2 r hr
    · rw [List.flatten_append]
      exact (RepL.append o3 hnews).mono hIk (fun _ e => e)
  obtain ⟨v1, w1, hrun, hown1, hg, hat1⟩ := key
  refine wp_value (v := v1) (w' := w1) ?_ ?_
  · obtain ⟨callee, ⟨args⟩, ⟨argTypes⟩⟩ := c
    simp only at hc ha hat
    subst hc ha hat
    simp only [execOp, hop, resolve, invoke, Go.builtin, Sem.run_bind, Sem.run_pure, Result.andThen_ok, List.map_toArray, List.map_cons, List.map_nil, hrun]
  · rw [hd, Act.put_some]
    have hnc : ∀ x y off, s'.noC.get x ≠ .cref y off := S.noC_cref s' fun x hx => (inv1.vtgt x hx).2
    have gsub : ∀ y j b, (s'.noC.get y).blocks w (val ts y) j = some b → (s'.get y).blocks w (val ts y) j = some b := by
      intro y j b e
      rcases S.get_noC s' y with h | h <;> rw [h] at e
      · exact e
      · simp [T.blocks] at e
    cases hb : (Act.eval ⟨ts, ds⟩ x).ownBlock with
    | none =>
      rw [hb] at hg hat1
      have hfr := Fr.of_grown hg
      have inv3 := inv2.grow hfr
      refine k I _ _ _ hK (fun _ e => e) (fun _ e => .inl e) (put_new inv3 (show d < s'.n by rw [hn]; exact hlt) hown1 (fun b hb2 => ?_))
      rcases hat1 with hat1 | hat1
      · rw [hat1] at hb2; cases hb2
      · rw [hat1] at hb2
        cases hb2
        exact old_blocks inv2 hfr (Nat.le_refl _)
    | some b =>
      rw [hb] at hg hat1
      obtain ⟨b1, b2, b3⟩ := hblk b hb
      have hfr : Fr (fun i => i = b) w w1 := Fr_grown hg
      have inv3 := inv2.free b1 (fun x i e => b3 x i (gsub x i b e)) b2 hnc hfr
      refine k I _ _ _ hK (fun _ e => e) (fun _ e => .inl e) (put_new inv3 (show d < s'.n by rw [hn]; exact hlt) hown1 (fun b' hb2 => ?_))
      have hbl : ∀ y j, (s'.noC.get y).blocks w1 (val ts y) j = (s'.noC.get y).blocks w (val ts y) j := fun y j => T.blocks_world (fun b' e => hfr.block b' (inv2.away y 0 b' e).2.1 (fun e2 => b3 y 0 (by rw [gsub y 0 b' e, e2]))) j
      rcases hat1 with hat1 | hat1
      · rw [hat1] at hb2
        cases hb2
        exact ⟨b1, b2, fun y j e => b3 y j (gsub y j b (by rw [← hbl]; exact e))⟩
      · rw [hat1] at hb2
        cases hb2
        refine ⟨fun e => by have := inv.Ilt _ e; omega, .inl inv.fr.size, fun y j e => ?_⟩
        rw [hbl] at e
        have := (inv2.away y j _ e).2.1
        omega

end

end Go.Ax

/- Storing; calls that are handed what somebody owns; all the louder operations together. -/
set_option linter.unusedVariables false
set_option linter.unusedSimpArgs false
namespace Go.Ax
open Go

theorem setv_setv (l : List (Nat × T)) (x : Nat) (t u : T) : setv (setv l x t) x u = setv l x u := by
  induction l with
  | nil => rfl
  | cons p l ih =>
    obtain ⟨k, v⟩ := p
    by_cases h : k = x <;> simp [setv, h, ih]
theorem S.upd_upd (s : S) (x : Nat) (t u : T) : (s.upd x t).upd x u = s.upd x u := by simp [S.upd, setv_setv]
theorem Fr_setRow (w : World) (b : Nat) (cs : Array Value) : Fr (fun i => i = b) w (w.setRow b cs) :=
  ⟨rfl, rfl, rfl, by simp [World.setRow], fun k _ hk => setRow_other w b k cs hk⟩

section
variable {P : Program} {w0 w : World} {ext I : Nat → Prop} {s : S} {ts : Array Value} {ds : List Deferred} {o : Oper} {next : Act → World → Prop} {Q : Exit → Act → World → Prop}

/-- A variable's cells are written. -/
theorem box_write (inv : Inv w0 ext I s ts w) {y : Nat} (hv : s.isVar y = true) {cells cells' : List Leaf} (hg : s.get y = .box cells) (hnc : ∀ x y off, s.get x ≠ .cref y off) {b : Nat} {e : TypeId} {cs cs' : Array Value} (hy : val ts y = .pointer (some ⟨b, 0, none⟩))
    (hb : w.heap[b]? = some (.cells cs e (0, 0))) (hsz : cs'.size = cells'.length)
    (hrep : ∀ (j : Nat) (lf : Leaf), cells'[j]? = some lf → RepLf w I (cs'.getD j undef) lf)
    (j0 : Nat) (hold : ∀ (j : Nat) (sz : Nat) (rows : List (List D)), cells'[j]? = some (.own sz rows) → j ≠ j0 → (∃ sz' rows', cells[j]? = some (.own sz' rows')) ∧ cs'.getD j undef = cs.getD j undef ∧ j < cs.size)
    (hnew : ∀ (sz : Nat) (rows : List (List D)) (c : Nat), cells'[j0]? = some (.own sz rows) → (cs'.getD j0 undef).ownBlock = some c → ¬ I c ∧ Mine w0 ext c ∧ c < w.heap.size ∧ ∀ x i, (s.get x).blocks w (val ts x) i ≠ some c) :
    Inv w0 ext I (s.upd y (.box cells')) ts (w.setRow b cs') := by
  have h0 : (s.get y).blocks w (val ts y) 0 = some b := by rw [hg]; simp [T.blocks, hy, ptrBlock]
  obtain ⟨a1, a2, a3⟩ := inv.away y 0 b h0
  have inv1 := inv.lose hv
  have hget1 := S.get_upd s y .none hv (inv.vtgt y hv).1
  have hb' : ∀ x i, ((s.upd y .none).get x).blocks w (val ts x) i ≠ some b := by
    intro x i e'
    rw [hget1] at e'
    split at e'
    · simp [T.blocks] at e'
    · rename_i hne; exact hne (inv.inj y 0 x i b h0 e').1
  have hnew0 : w0.heap.size ≤ b ∨ ext b := a3
  have inv2 := inv1.free a1 hb' hnew0 (fun x z off e' => by
    rw [hget1] at e'
    split at e'
    · cases e'
    · exact hnc x z off e') (Fr_setRow w b cs')
  have hv2 : (s.upd y .none).isVar y = true := by rw [S.upd_isVar]; exact hv
  have hw1 : (w.setRow b cs').heap[b]? = some (.cells cs' e (0, 0)) := setRow_heap w b cs cs' e (0, 0) hb
  have hother : ∀ c, c ≠ b → (w.setRow b cs').heap[c]? = w.heap[c]? := fun c hc => setRow_other w b c cs' hc
  have hcell : ∀ j, j < cs'.size → (w.setRow b cs').cell? ⟨b, j, none⟩ = some (cs'.getD j undef) := fun j hj => box_cell hw1 hj
  -- the blocks of the new cells
  have hblk : ∀ i c, (T.box cells').blocks (w.setRow b cs') (val ts y) i = some c → (i = 0 ∧ c = b) ∨ (i = j0 + 1 ∧ ∃ sz rows, cells'[j0]? = some (.own sz rows) ∧ (cs'.getD j0 undef).ownBlock = some c) ∨
      (i ≠ 0 ∧ i ≠ j0 + 1 ∧ (s.get y).blocks w (val ts y) i = some c) := by
    intro i c hc
    unfold T.blocks at hc
    dsimp only at hc
    split at hc
    · rename_i hi
      left
      exact ⟨hi, by rw [hy] at hc; simpa [ptrBlock] using hc.symm⟩
    · rename_i hi
      split at hc
      · rename_i sz rows b' e1 e2
        rw [hy] at e2
        simp only [ptrBlock, Option.some.injEq] at e2
        subst e2
        have hlt : i - 1 < cs'.size := by rw [hsz]; exact (List.getElem?_eq_some_iff.1 e1).1
        rw [hcell _ hlt] at hc
        simp only [Option.bind_some] at hc
        by_cases hj : i - 1 = j0
        · right; left
          refine ⟨by omega, sz, rows, by rw [← hj]; exact e1, by rw [← hj]; exact hc⟩
        · right; right
          obtain ⟨⟨sz', rows', e3⟩, e4, e5⟩ := hold _ _ _ e1 hj
          refine ⟨hi, by omega, ?_⟩
          rw [hg]
          unfold T.blocks
          dsimp only
          rw [if_neg hi, e3, hy]
          simp only [ptrBlock, box_cell hb e5, Option.bind_some, ← e4]
          exact hc
      · cases hc
  have hself : s.upd y (.box cells') = (s.upd y .none).upd y (.box cells') := (S.upd_upd s y _ _).symm
  rw [hself]
  refine inv2.upd hv2 ⟨b, e, cs', hy, hw1, hsz, fun j lf hj => ?_⟩ rfl (fun i c hc => ?_) (fun i j c hc1 hc2 => ?_)
  · refine RepLf.mono (fun c hc => hother c (fun e => a1 (by rw [← e]; exact hc))) (fun _ e => e) (fun sz rows el c hc => hother c (fun e2 => ?_)) (hrep j lf hj)
    subst el
    by_cases hjj : j = j0
    · subst hjj
      exact (hnew sz rows c hj hc).2.2.2 y 0 (by rw [e2]; exact h0)
    · obtain ⟨⟨sz', rows', e3⟩, e4, e5⟩ := hold _ _ _ hj hjj
      have : (s.get y).blocks w (val ts y) (j + 1) = some c := by
        rw [hg]
        unfold T.blocks
        dsimp only
        rw [if_neg (by omega), Nat.add_sub_cancel, e3, hy]
        simp only [ptrBlock, box_cell hb e5, Option.bind_some, ← e4]
        exact hc
      have := (inv.inj y (j + 1) y 0 b (by rw [← e2]; exact this) h0).2
      omega
  · have hnot : ∀ x j, x ≠ y → ((s.upd y .none).get x).blocks (w.setRow b cs') (val ts x) j = some c → (s.get x).blocks w (val ts x) j = some c := by
      intro x j hx e2
      rw [hget1, if_neg (Ne.symm hx)] at e2
      rw [T.blocks_world (fun c' e3 => hother c' (fun e4 => hx (inv.inj x 0 y 0 b (by rw [← e4]; exact e3) h0).1))] at e2
      exact e2
    rcases hblk i c hc with ⟨rfl, rfl⟩ | ⟨rfl, sz, rows, e1, e2⟩ | ⟨hi, hij, e1⟩
    · exact ⟨a1, by simpa [World.setRow] using a2, a3, fun x j hx e3 => hx (inv.inj x j y 0 c (hnot x j hx e3) h0).1⟩
    · obtain ⟨b1, b2, b3, b4⟩ := hnew sz rows c e1 e2
      exact ⟨b1, by simpa [World.setRow] using b3, b2, fun x j hx e3 => b4 x j (hnot x j hx e3)⟩
    · obtain ⟨b1, b2, b3⟩ := inv.away y i c e1
      exact ⟨b1, by simpa [World.setRow] using b2, b3, fun x j hx e3 => hx (inv.inj x j y i c (hnot x j hx e3) e1).1⟩
  · rcases hblk i c hc1 with ⟨rfl, rfl⟩ | ⟨rfl, sz, rows, e1, e2⟩ | ⟨hi, hij, e1⟩
    · rcases hblk j c hc2 with ⟨rfl, _⟩ | ⟨rfl, sz, rows, e3, e4⟩ | ⟨hj, hjj, e3⟩
      · rfl
      · exact absurd h0 ((hnew sz rows c e3 e4).2.2.2 y 0)
      · exact (inv.inj y 0 y j c h0 e3).2
    · rcases hblk j c hc2 with ⟨rfl, rfl⟩ | ⟨rfl, sz', rows', e3, e4⟩ | ⟨hj, hjj, e3⟩
      · exact absurd h0 ((hnew sz rows c e1 e2).2.2.2 y 0)
      · rfl
      · exact absurd e3 ((hnew sz rows c e1 e2).2.2.2 y j)
    · rcases hblk j c hc2 with ⟨rfl, rfl⟩ | ⟨rfl, sz, rows, e3, e4⟩ | ⟨hj, hjj, e3⟩
      · exact (inv.inj y i y 0 c e1 h0).2
      · exact absurd e1 ((hnew sz rows c e3 e4).2.2.2 y i)
      · exact (inv.inj y i y j c e1 e3).2

/-- A row's cells are written. -/
theorem own_write (inv : Inv w0 ext I s ts w) {y : Nat} (hv : s.isVar y = true) {sz : Nat} {rows rows' : List (List D)} (hg : s.get y = .own sz rows) (hnc : ∀ x y off, s.get x ≠ .cref y off) {b n c : Nat} (hy : val ts y = .slice (some ⟨b, 0, none⟩) n c) {cs : Array Value} {e : TypeId}
    (hb : w.heap[b]? = some (.cells cs e (0, 0))) {k : Nat} {vs : List Value} (hk : k + vs.length ≤ n * sz) (hrows : (∀ r ∈ rows', r.length = sz) ∧ rows'.length = rows.length)
    (hrep : ∀ xs, RepL w I rows.flatten xs → xs.length = n * sz → RepL w I rows'.flatten (xs.take k ++ vs ++ xs.drop (k + vs.length))) :
    Inv w0 ext I (s.upd y (.own sz rows')) ts (w.setRow b (cs.toList.take k ++ vs ++ cs.toList.drop (k + vs.length)).toArray) := by
  have h0 : (s.get y).blocks w (val ts y) 0 = some b := by rw [hg]; simp [T.blocks, hy, Value.ownBlock]
  obtain ⟨a1, a2, a3⟩ := inv.away y 0 b h0
  have hw0b : w0.heap.size ≤ b ∨ ext b := a3
  have inv1 := inv.lose hv
  have hget1 := S.get_upd s y .none hv (inv.vtgt y hv).1
  have hb' : ∀ x i, ((s.upd y .none).get x).blocks w (val ts x) i ≠ some b := by
    intro x i e'
    rw [hget1] at e'
    split at e'
    · simp [T.blocks] at e'
    · rename_i hne; exact hne (inv.inj y 0 x i b h0 e').1
  have inv2 := inv1.free a1 hb' hw0b (fun x z off e' => by
    rw [hget1] at e'
    split at e'
    · cases e'
    · exact hnc x z off e') (Fr_setRow w b (cs.toList.take k ++ vs ++ cs.toList.drop (k + vs.length)).toArray)
  have hv2 : (s.upd y .none).isVar y = true := by rw [S.upd_isVar]; exact hv
  have hother : ∀ c', c' ≠ b → (w.setRow b (cs.toList.take k ++ vs ++ cs.toList.drop (k + vs.length)).toArray).heap[c']? = w.heap[c']? := fun c' hc => setRow_other w b c' _ hc
  have hr := inv.rep y
  rw [hg] at hr
  have hself : s.upd y (.own sz rows') = (s.upd y .none).upd y (.own sz rows') := (S.upd_upd s y _ _).symm
  rw [hself]
  refine inv2.upd hv2 ?_ rfl (fun i c' hc => ?_) (fun i j c' hc1 hc2 => ?_)
  · rcases hr with ⟨h1, h2⟩ | ⟨hpos, eT, xs, o1, o2, o3⟩
    · rw [hy] at h1; cases h1
    · have hn : n = rows.length := by
        rcases o1.2 with ⟨h', _⟩ | ⟨g', cap', cur, h', _⟩
        · rw [hy] at h'; cases h'
        · rw [hy] at h'; simp only [Value.slice.injEq] at h'; exact h'.2.1
      subst hn
      rcases o1.2 with ⟨h', _⟩ | ⟨g', cap, cur, h', hbg, hgg, hcap, hmax, hcs, htake⟩
      · rw [hy] at h'; cases h'
      rw [hy] at h'
      simp only [Value.slice.injEq, Option.some.injEq, Addr.mk.injEq, and_true, true_and] at h'
      obtain ⟨rfl, rfl⟩ := h'
      rw [hb] at hgg
      cases hgg
      have hle : rows.length * sz ≤ cs.size := by rw [hcs]; exact Nat.mul_le_mul_right _ hcap
      refine .inr ⟨hpos, e, xs.take k ++ vs ++ xs.drop (k + vs.length), ⟨?_, .inr ⟨b, c, _, by rw [hy, hrows.2], hbg, setRow_heap w b cs _ e _ hb, by rw [hrows.2]; exact hcap, hmax, ?_, ?_⟩⟩, hrows.1, ?_⟩
      · rw [hrows.2]
        simp only [List.length_append, List.length_take, List.length_drop, o1.1]
        omega
      · simp only [List.size_toArray, List.length_append, List.length_take, List.length_drop, Array.length_toList]
        omega
      · rw [hrows.2]
        show List.take (rows.length * sz) (List.take k cs.toList ++ vs ++ List.drop (k + vs.length) cs.toList) = _
        rw [← htake]
        apply List.ext_getElem?
        intro j
        rw [List.getElem?_take]
        by_cases h1 : j < rows.length * sz
        · rw [if_pos h1]
          simp only [List.getElem?_append, List.length_append, List.length_take, List.getElem?_take, List.getElem?_drop, Array.length_toList]
          by_cases h2 : j < k
          · simp [h2, show min k cs.size = k by omega, show min k (min (rows.length * sz) cs.size) = k by omega, show j < k + vs.length by omega, h1]
          · by_cases h3 : j < k + vs.length
            · simp [h2, h3, show min k cs.size = k by omega, show min k (min (rows.length * sz) cs.size) = k by omega]
            · simp [h2, h3, show min k cs.size = k by omega, show min k (min (rows.length * sz) cs.size) = k by omega, show k + vs.length + (j - (k + vs.length)) = j by omega, h1]
        · rw [if_neg h1, List.getElem?_eq_none]
          simp only [List.length_append, List.length_take, List.length_drop, Array.length_toList]
          omega
      · exact (hrep xs o3 o1.1).mono (fun c' hc => hother c' (fun e => a1 (by rw [← e]; exact hc))) (fun _ e => e)
  · have hc0 : c' = b ∧ i = 0 := by
      unfold T.blocks at hc
      dsimp only at hc
      split at hc
      · rename_i hi; rw [hy] at hc; simp only [Value.ownBlock, Option.some.injEq] at hc; exact ⟨hc.symm, hi⟩
      · cases hc
    obtain ⟨rfl, rfl⟩ := hc0
    refine ⟨a1, by simpa [World.setRow] using a2, hw0b, fun x j hx e3 => ?_⟩
    rw [T.blocks_world (fun c2 e4 => hother c2 (fun e5 => hb' x 0 (by rw [← e5]; exact e4)))] at e3
    exact hb' x j e3
  · unfold T.blocks at hc1 hc2
    dsimp only at hc1 hc2
    split at hc1
    · split at hc2
      · omega
      · cases hc2
    · cases hc1

theorem run_storeAt {t : TypeId} (hi : (P.info? t).isSome = true) {b off : Nat} {e : TypeId} {cs : Array Value} {v : Value} (hb : w.heap[b]? = some (.cells cs e (0, 0))) (hsz : v.cells.size = P.cellsOf t) (hfit : off + v.cells.size ≤ cs.size) (h1 : ∀ u ∈ v.cells.toList, u.oneCell' = true) :
    (Instr.storeAt t (.pointer (some ⟨b, off, none⟩)) v).run P w = .ok () (w.setRow b (cs.toList.take off ++ v.cells.toList ++ cs.toList.drop (off + v.cells.size)).toArray) := by
  obtain ⟨i, hi⟩ := Option.isSome_iff_exists.1 hi
  have hst := run_storeCells_at P b off e v.cells.toList 0 cs w hb (by simpa using hfit) h1
  simp only [Nat.add_zero, Array.length_toList] at hst
  simp only [Instr.storeAt, Sem.run_bind, run_sureAddr, Result.andThen_ok, storeVar, run_sizeOf' hi]
  rw [if_neg (by simp [hsz])]
  simp only [Sem.run_bind, Sem.run_pure, Result.andThen_ok, hst]

/-- What follows a store. -/
def NextS (w0 : World) (ext I : Nat → Prop) (ts : Array Value) (ds : List Deferred) (K : S → Prop) (next : Act → World → Prop) : Prop :=
  ∀ I2 w' s', K s' → (∀ b, I b → I2 b) → (∀ b, I2 b → I b ∨ Mine w0 ext b) → Inv w0 ext I2 s' ts w' → next ⟨ts, ds⟩ w'

theorem wp_skip' {w' : World} (h : (execOp (Act.eval ⟨ts, ds⟩) o).run P w = .ok .skip w') (hd : o.dst = none) (k : next ⟨ts, ds⟩ w') : o.wp P ⟨ts, ds⟩ w next Q := by
  unfold Oper.wp
  rw [h]
  simp only [Oper.upon, hd, Act.put]
  exact k

theorem getD_append3 {α : Type} (a b c : List α) (j : Nat) : (a ++ b ++ c)[j]? = if j < a.length then a[j]? else if j < a.length + b.length then b[j - a.length]? else c[j - (a.length + b.length)]? := by
  rw [List.append_assoc, List.getElem?_append]
  by_cases h1 : j < a.length
  · rw [if_pos h1, if_pos h1]
  · rw [if_neg h1, if_neg h1, List.getElem?_append]
    by_cases h2 : j < a.length + b.length
    · rw [if_pos h2, if_pos (by omega)]
    · rw [if_neg h2, if_neg (by omega), Nat.sub_sub]

theorem getD_toArray (l : List Value) (j : Nat) : l.toArray.getD j undef = (l[j]?).getD undef := by simp [Array.getD_eq_getD_getElem?]

theorem eStore_wp (inv : Inv w0 ext I s ts w) {t : TypeId} {addr x : Operand} {K : S → Prop} (h : eStore P t addr x s K) (hop : o.op = .store t addr x)
    (hd : o.dst = none) (k : NextS w0 ext I ts ds K next) : o.wp P ⟨ts, ds⟩ w next Q := by
  obtain ⟨hi, h⟩ := h
  have hrunS : ∀ {w' : World}, (Instr.storeAt t (Act.eval ⟨ts, ds⟩ addr) (Act.eval ⟨ts, ds⟩ x)).run P w = .ok () w' → (execOp (Act.eval ⟨ts, ds⟩) o).run P w = .ok .skip w' := by
    intro w' hr
    simp only [execOp, hop, Sem.run_bind, hr, Result.andThen_ok, Sem.run_pure]
  split at h
  · rename_i y off cells e1 e2
    have hvy : s.isVar y = true := opd_target inv addr (y := y) (by rw [show opd s addr = .bref y off from e1]; rfl)
    split at h
    · rename_i sz rows e3
      obtain ⟨z, rfl, hgz, hvz⟩ := opd_own (s := s) e3
      obtain ⟨hc1, hlt, hK⟩ := h
      obtain ⟨b, e, cs, f1, f2, f3, f4, f5⟩ := ev_bref (ds := ds) inv e1 e2
      have hcell2 : s.get y = .box cells := (ev_c inv addr (y := y) (by rw [e1]; rfl)).1 ▸ e2
      have hrz : OwnL w I (val ts z) sz rows := by have := inv.rep z; rw [hgz] at this; exact this
      have hvz1 : Act.eval ⟨ts, ds⟩ (.tmp z) = val ts z := rfl
      have hcz : (val ts z).cells = #[val ts z] := by have := hrz.one; cases hv : val ts z <;> simp_all [Value.cells, Value.oneCell']
      have hrun := run_storeAt (P := P) (t := t) hi (off := off) f3 (v := val ts z) (by rw [hcz, hc1]; rfl) (by rw [hcz]; simp; omega) (by rw [hcz]; simpa using hrz.one)
      rw [hcz] at hrun
      refine wp_skip' (hrunS (by rw [f2, hvz1]; exact hrun)) hd ?_
      have inv1 := (inv.drop hvz).noC
      have hnc := S.noC_cref (s.drop z) fun x hx => ((inv.drop hvz).vtgt x hx).2
      have hzy : z ≠ y := by rintro rfl; rw [hvy] at hvz; cases hvz
      have hsub : ∀ q, (s.drop z).noC.get q = s.get q ∨ (s.drop z).noC.get q = .none := fun q => by
        rcases S.get_noC (s.drop z) q with h | h
        · rw [h]
          show (s.putT z .none).get q = _ ∨ (s.putT z .none).get q = _
          rw [S.get_putT]
          split
          · exact .inr rfl
          · exact .inl rfl
        · exact .inr h
      have hgy : (s.drop z).noC.get y = .box cells := by
        rcases hsub y with h | h
        · rw [h, hcell2]
        · exfalso
          have hl : look (s.drop z).noC.ts y = none := (inv1.vtgt y hvy).1
          have hg2 : (s.drop z).noC.get y = (look s.vs y).getD .none := by unfold S.get; rw [hl]; rfl
          have hg3 : s.get y = (look s.vs y).getD .none := by unfold S.get; rw [(inv.vtgt y hvy).1]; rfl
          rw [hg2, ← hg3, hcell2] at h
          cases h
      have hgz2 : ∀ q i c, ((s.drop z).noC.get q).blocks w (val ts q) i = some c → (s.get q).blocks w (val ts q) i = some c ∧ q ≠ z := by
        intro q i c e4
        refine ⟨?_, ?_⟩
        · rcases hsub q with h | h <;> rw [h] at e4
          · exact e4
          · simp [T.blocks] at e4
        · rintro rfl
          have : (s.drop q).noC.get q = .none := by
            rcases S.get_noC (s.drop q) q with h | h
            · rw [h]; show (s.putT q .none).get q = .none; rw [S.get_putT, if_pos rfl]
            · exact h
          rw [this] at e4
          simp [T.blocks] at e4
      refine k I _ _ hK (fun _ e => e) (fun _ e => .inl e) (box_write inv1 (y := y) hvy hgy hnc f1 f3 ?_ (fun j lf hj => ?_) off (fun j sz' rows' hj hne => ?_) (fun sz' rows' c hj hc => ?_))
      · simp
        omega
      · rw [getD_toArray, getD_append3]
        simp only [List.length_take, Array.length_toList, Nat.min_eq_left (show off ≤ cs.size by omega)]
        rw [List.getElem?_set] at hj
        split at hj
        · rename_i hoj
          subst hoj
          cases hj
          simpa [show min off cs.size = off by omega] using (show RepLf w I (val ts z) (.own sz rows) from hrz)
        · rename_i hoj
          have := f5 j lf hj
          rw [Array.getD_eq_getD_getElem?] at this
          by_cases h1 : j < off
          · rw [if_pos h1, List.getElem?_take, if_pos h1]; simpa using this
          · rw [if_neg h1]
            simp only [List.length_cons, List.length_nil, Nat.zero_add]
            rw [if_neg (by omega), List.getElem?_drop]
            rw [show off + (#[val ts z] : Array Value).size + (j - (off + 1)) = j by simp; omega]
            simpa using this
      · rw [List.getElem?_set, if_neg (Ne.symm hne)] at hj
        have hjl : j < cs.size := by rw [f4]; exact (List.getElem?_eq_some_iff.1 hj).1
        refine ⟨⟨sz', rows', hj⟩, ?_, hjl⟩
        rw [getD_toArray, getD_append3, Array.getD_eq_getD_getElem?]
        simp only [List.length_take, Array.length_toList, Nat.min_eq_left (show off ≤ cs.size by omega)]
        by_cases h1 : j < off
        · rw [if_pos h1, List.getElem?_take, if_pos h1]; simp
        · rw [if_neg h1]
          simp only [List.length_cons, List.length_nil, Nat.zero_add]
          rw [if_neg (by omega), List.getElem?_drop]
          rw [show off + (#[val ts z] : Array Value).size + (j - (off + 1)) = j by simp; omega]
          simp
      · rw [getD_toArray, getD_append3] at hc
        simp only [List.length_take, Array.length_toList, Nat.min_eq_left (show off ≤ cs.size by omega), Nat.lt_irrefl, if_false, List.length_cons, List.length_nil, Nat.zero_add, Nat.lt_succ_self, if_true, Nat.sub_self] at hc
        have hb1 : (s.get z).blocks w (val ts z) 0 = some c := by rw [hgz]; simpa [T.blocks] using hc
        obtain ⟨a1, a2, a3⟩ := inv.away z 0 c hb1
        refine ⟨a1, ?_, a2, fun q i e4 => ?_⟩
        · exact a3
        · obtain ⟨e5, e6⟩ := hgz2 q i c e4
          exact e6 (inv.inj q i z 0 c e5 hb1).1
    · split at h <;> try exact h.elim
      rename_i s' g es hf
      obtain ⟨hsz, hfit, h⟩ := h
      obtain ⟨I2, k1, k2, inv2, hA, hn, hvar⟩ := frz_sound (ds := ds) inv hf
      split at h <;> try exact h.elim
      rename_i cells' hg'
      have hvy' : s'.isVar y = true := by rw [hvar]; exact hvy
      have hr := inv2.rep y
      rw [hg'] at hr
      obtain ⟨b, e, cs, f1, f3, f4, f5⟩ := hr
      have hb0 := opd_sound (ds := ds) inv addr
      rw [show opd s addr = .bref y off from e1] at hb0
      obtain ⟨b', g1, f2⟩ := hb0
      rw [f1] at g1
      simp only [Value.pointer.injEq, Option.some.injEq, Addr.mk.injEq, and_true] at g1
      subst g1
      have hc := hA.cells
      have hcl : es.length = (Act.eval ⟨ts, ds⟩ x).cells.size := by have := hc.1; simpa using this
      have hcs : cells'.length = cells.length := by
        obtain ⟨b2, e3, cs2, i1, i2, i3, i4, i5⟩ := ev_bref (ds := ds) inv e1 e2
        rw [f1] at i1
        simp only [Value.pointer.injEq, Option.some.injEq, Addr.mk.injEq, and_true] at i1
        subst i1
        rw [f3] at i3
        cases i3
        omega
      have hrun := run_storeAt (P := P) (t := t) hi (off := off) f3 (v := Act.eval ⟨ts, ds⟩ x) (by rw [← hcl]; exact hsz) (by omega) hc.one
      refine wp_skip' (hrunS (by rw [f2]; exact hrun)) hd ?_
      have hnc := S.noC_cref s' fun x hx => (inv2.vtgt x hx).2
      have inv3 := inv2.noC
      have hgy : s'.noC.get y = .box cells' := by
        rcases S.get_noC s' y with h | h
        · rw [h, hg']
        · exfalso
          have hl : look s'.noC.ts y = none := (inv3.vtgt y hvy').1
          have hg2 : s'.noC.get y = (look s'.vs y).getD .none := by unfold S.get; rw [hl]; rfl
          have hg3 : s'.get y = (look s'.vs y).getD .none := by unfold S.get; rw [(inv2.vtgt y hvy').1]; rfl
          rw [hg2, ← hg3, hg'] at h
          cases h
      have hkey : ∀ j (lf : Leaf), (cells'.take off ++ es.map Leaf.d ++ cells'.drop (off + es.length))[j]? = some lf →
          (∃ d, lf = .d d ∧ RepD w I2 d (((cs.toList.take off ++ (Act.eval ⟨ts, ds⟩ x).cells.toList ++ cs.toList.drop (off + (Act.eval ⟨ts, ds⟩ x).cells.size)).toArray).getD j undef)) ∨
          (cells'[j]? = some lf ∧ ((cs.toList.take off ++ (Act.eval ⟨ts, ds⟩ x).cells.toList ++ cs.toList.drop (off + (Act.eval ⟨ts, ds⟩ x).cells.size)).toArray).getD j undef = cs.getD j undef) := by
        intro j lf hj
        rw [getD_toArray, getD_append3]
        rw [getD_append3] at hj
        simp only [List.length_take, Array.length_toList, List.length_map, Nat.min_eq_left (show off ≤ cs.size by omega), Nat.min_eq_left (show off ≤ cells'.length by omega), ← hcl] at hj ⊢
        by_cases h1 : j < off
        · rw [if_pos h1, List.getElem?_take, if_pos h1] at hj ⊢
          exact .inr ⟨hj, by simp [Array.getD_eq_getD_getElem?]⟩
        · rw [if_neg h1] at hj ⊢
          by_cases h2 : j < off + es.length
          · rw [if_pos h2] at hj ⊢
            rw [List.getElem?_map] at hj
            cases hd' : es[j - off]? with
            | none => rw [hd'] at hj; cases hj
            | some d =>
              rw [hd'] at hj
              simp only [Option.map_some, Option.some.injEq] at hj
              subst hj
              obtain ⟨v, e3, e4⟩ := hc.at hd'
              exact .inl ⟨d, rfl, by rw [e3]; exact e4⟩
          · rw [if_neg h2, List.getElem?_drop] at hj ⊢
            rw [show off + es.length + (j - (off + es.length)) = j by omega] at hj ⊢
            exact .inr ⟨hj, by simp [Array.getD_eq_getD_getElem?]⟩
      refine k I2 _ _ h k1 k2 (box_write inv3 (y := y) hvy' hgy hnc f1 f3 ?_ (fun j lf hj => ?_) (cells'.length + es.length + 1) (fun j sz' rows' hj hne => ?_) (fun sz' rows' c hj hc => ?_))
      · simp only [List.size_toArray, List.length_append, List.length_take, List.length_drop, Array.length_toList, List.length_map, ← hcl]
        omega
      · rcases hkey j lf hj with ⟨d, rfl, h1⟩ | ⟨h1, h2⟩
        · exact h1
        · rw [h2]; exact f5 j lf h1
      · rcases hkey j _ hj with ⟨d, h1, _⟩ | ⟨h1, h2⟩
        · cases h1
        · exact ⟨⟨_, _, h1⟩, h2, by rw [f4]; exact (List.getElem?_eq_some_iff.1 h1).1⟩
      · have := (List.getElem?_eq_some_iff.1 hj).1
        simp only [List.length_append, List.length_take, List.length_drop, List.length_map] at this
        omega
  · rename_i y sz i off sz0 rows e1 e2
    have hvy : s.isVar y = true := opd_target inv addr (y := y) (by rw [show opd s addr = .oref y sz i off from e1]; rfl)
    split at h <;> try exact h.elim
    rename_i s' g es hf
    obtain ⟨hsz, hir, hrow, hfit, h⟩ := h
    obtain ⟨I2, k1, k2, inv2, hA, hn, hvar⟩ := frz_sound (ds := ds) inv hf
    split at h <;> try exact h.elim
    rename_i sz' rows' hg'
    have hvy' : s'.isVar y = true := by rw [hvar]; exact hvy
    obtain ⟨b, n, c, f1, f2, f3⟩ := ev_oref (ds := ds) inv e1 e2
    have hr : OwnL w I2 (val ts y) sz' rows' := by have := inv2.rep y; rw [hg'] at this; exact this
    -- the rows are the same ones
    have hc := hA.cells
    have hcl : es.length = (Act.eval ⟨ts, ds⟩ x).cells.size := by have := hc.1; simpa using this
    obtain ⟨hi2, hrow2, h⟩ := h
    have hri : rows'[i]? = some (rows'.getD i (List.replicate sz (.v undef))) := by simp [List.getD_eq_getElem?_getD, List.getElem?_eq_getElem hi2]
    rcases hr with ⟨_, rfl⟩ | ⟨hpos, eT, xs, o1, o2, o3⟩
    · simp at hi2
    have hz : sz' = sz := by rw [← o2 _ (List.mem_of_getElem? hri), hrow2]
    subst hz
    have hn : n = rows'.length := by
      rcases o1.2 with ⟨h', _⟩ | ⟨g', cap', cur, h', _⟩
      · rw [f1] at h'; cases h'
      · rw [f1] at h'; simp only [Value.slice.injEq] at h'; exact h'.2.1
    subst hn
    obtain ⟨cs, e, hb, hcap⟩ : ∃ cs e, w.heap[b]? = some (.cells cs e (0, 0)) ∧ rows'.length * sz' ≤ cs.size := by
      rcases o1.2 with ⟨h', _⟩ | ⟨g', cap', cur, h', hbg, hgg, hcap, hmax, hcs, htake⟩
      · rw [f1] at h'; cases h'
      · rw [f1] at h'
        simp only [Value.slice.injEq, Option.some.injEq, Addr.mk.injEq, and_true, true_and] at h'
        obtain ⟨rfl, rfl⟩ := h'
        exact ⟨cur, eT, hgg, by rw [hcs]; exact Nat.mul_le_mul_right _ hcap⟩
    have hle : (i + 1) * sz' ≤ rows'.length * sz' := Nat.mul_le_mul_right _ hi2
    rw [Nat.succ_mul] at hle
    have hrun := run_storeAt (P := P) (t := t) hi (off := i * sz' + off) hb (v := Act.eval ⟨ts, ds⟩ x) (by rw [← hcl]; exact hsz) (by omega) hc.one
    refine wp_skip' (hrunS (by rw [f2]; exact hrun)) hd ?_
    have hnc := S.noC_cref s' fun x hx => (inv2.vtgt x hx).2
    have inv3 := inv2.noC
    have hgy : s'.noC.get y = .own sz' rows' := by
      rcases S.get_noC s' y with h | h
      · rw [h, hg']
      · exfalso
        have hl : look s'.noC.ts y = none := (inv3.vtgt y hvy').1
        have hg2 : s'.noC.get y = (look s'.vs y).getD .none := by unfold S.get; rw [hl]; rfl
        have hg3 : s'.get y = (look s'.vs y).getD .none := by unfold S.get; rw [(inv2.vtgt y hvy').1]; rfl
        rw [hg2, ← hg3, hg'] at h
        cases h
    have hw := own_write inv3 hvy' hgy hnc f1 hb (k := i * sz' + off) (vs := (Act.eval ⟨ts, ds⟩ x).cells.toList) (rows' := rows'.set i ((rows'.getD i (List.replicate sz' (.v undef))).take off ++ es ++ (rows'.getD i (List.replicate sz' (.v undef))).drop (off + es.length)))
      (by simp only [Array.length_toList, ← hcl]; omega) ⟨fun r hr => ?_, by simp⟩ (fun xs hx hxl => ?_)
    · simp only [Array.length_toList] at hw
      exact k I2 _ _ h k1 k2 hw
    · rcases List.mem_or_eq_of_mem_set hr with hr | rfl
      · exact o2 r hr
      · simp only [List.length_append, List.length_take, List.length_drop, hrow2]
        omega
    · -- the rows, flattened
      have e3 : (rows'.set i ((rows'.getD i (List.replicate sz' (.v undef))).take off ++ es ++ (rows'.getD i (List.replicate sz' (.v undef))).drop (off + es.length))).flatten = rows'.flatten.take (i * sz' + off) ++ es ++ rows'.flatten.drop (i * sz' + off + es.length) := by
        have hsplit : rows' = rows'.take i ++ rows'.getD i (List.replicate sz' (.v undef)) :: rows'.drop (i + 1) := by
          rw [List.getD_eq_getElem?_getD, List.getElem?_eq_getElem hi2]
          simp
        have hl1 : (rows'.take i).flatten.length = i * sz' := by
          rw [length_flatten (fun r hr => o2 r (List.mem_of_mem_take hr)), List.length_take, Nat.min_eq_left (by omega)]
        have hset : rows'.set i ((rows'.getD i (List.replicate sz' (.v undef))).take off ++ es ++ (rows'.getD i (List.replicate sz' (.v undef))).drop (off + es.length)) = rows'.take i ++ ((rows'.getD i (List.replicate sz' (.v undef))).take off ++ es ++ (rows'.getD i (List.replicate sz' (.v undef))).drop (off + es.length)) :: rows'.drop (i + 1) := by
          rw [List.set_eq_take_append_cons_drop, if_pos hi2]
        rw [hset]
        conv => rhs; rw [hsplit]
        simp only [List.flatten_append, List.flatten_cons]
        have u1 : ((rows'.take i).flatten).take (i * sz' + off) = (rows'.take i).flatten := List.take_of_length_le (by omega)
        have u2 : ((rows'.take i).flatten).drop (i * sz' + off + es.length) = [] := List.drop_of_length_le (by omega)
        rw [List.take_append, List.drop_append, u1, u2, hl1, List.take_append, List.drop_append, hrow2,
          show i * sz' + off - i * sz' = off by omega, show i * sz' + off + es.length - i * sz' = off + es.length by omega, show off - sz' = 0 by omega, show off + es.length - sz' = 0 by omega]
        simp
      rw [e3]
      simp only [Array.length_toList]
      have h4 := ((hx.take (i * sz' + off)).append hc).append (hx.drop (i * sz' + off + es.length))
      rw [← hcl]
      exact h4
  · exact h.elim

end

end Go.Ax

/- Less may be said of a state: an own list is data, a nil list is of any width, a slot is forgotten. -/
set_option linter.unusedVariables false
set_option linter.unusedSimpArgs false
namespace Go.Ax
open Go
inductive FlexL : Leaf → Leaf → Prop where
  | refl (l : Leaf) : FlexL l l
  | nil (sz : Nat) : FlexL (.own 0 []) (.own sz [])
  | frz (sz : Nat) (rows : List (List D)) : FlexL (.own sz rows) (.d (.l rows))
inductive FlexB : List Leaf → List Leaf → Prop where
  | nil : FlexB [] []
  | cons {l m : Leaf} {ls ms : List Leaf} (h : FlexL l m) (hs : FlexB ls ms) : FlexB (l :: ls) (m :: ms)
inductive FlexT : T → T → Prop where
  | refl (t : T) : FlexT t t
  | none (t : T) : FlexT t .none
  | nil (sz : Nat) : FlexT (.own 0 []) (.own sz [])
  | frz (sz : Nat) (rows : List (List D)) : FlexT (.own sz rows) (.one (.l rows))
  | box {ls ms : List Leaf} (h : FlexB ls ms) : FlexT (.box ls) (.box ms)
  | fbox {ls : List Leaf} {ds : List D} (h : FlexB ls (ds.map Leaf.d)) : FlexT (.box ls) (.el ds)
inductive FlexV : List (Nat × T) → List (Nat × T) → Prop where
  | nil : FlexV [] []
  | cons {k : Nat} {t u : T} {l m : List (Nat × T)} (h : FlexT t u) (hs : FlexV l m) : FlexV ((k, t) :: l) ((k, u) :: m)
inductive Flex : S → S → Prop where
  | mk {n : Nat} {ts : List (Nat × T)} {l m : List (Nat × T)} (h : FlexV l m) : Flex ⟨n, ts, l⟩ ⟨n, ts, m⟩
theorem FlexV.rfl' : ∀ l : List (Nat × T), FlexV l l
  | [] => .nil
  | (k, t) :: l => .cons (.refl t) (FlexV.rfl' l)
theorem Flex.refl {s : S} (h : s.ts = []) : Flex s s := by
  obtain ⟨n, ts, vs⟩ := s
  exact .mk (FlexV.rfl' _)
theorem FlexV.look {l m : List (Nat × T)} (h : FlexV l m) (x : Nat) : (Go.Ax.look l x = Option.none ∧ Go.Ax.look m x = Option.none) ∨ ∃ t u, Go.Ax.look l x = some t ∧ Go.Ax.look m x = some u ∧ FlexT t u := by
  induction h with
  | nil => exact .inl ⟨rfl, rfl⟩
  | @cons k t u l m h hs ih =>
    simp only [Go.Ax.look]
    by_cases e : k = x
    · rw [if_pos e, if_pos e]; exact .inr ⟨t, u, rfl, rfl, h⟩
    · rw [if_neg e, if_neg e]; exact ih
theorem FlexB.length {l m : List Leaf} (h : FlexB l m) : l.length = m.length := by
  induction h with
  | nil => rfl
  | cons _ _ ih => simp [ih]
theorem FlexB.at {l m : List Leaf} (h : FlexB l m) {j : Nat} {b : Leaf} (hb : m[j]? = some b) : ∃ a, l[j]? = some a ∧ FlexL a b := by
  induction h generalizing j with
  | nil => simp at hb
  | cons h hs ih =>
    cases j with
    | zero => simp at hb; subst hb; exact ⟨_, rfl, h⟩
    | succ j => simpa using ih (by simpa using hb)
theorem FlexT.blocks {t u : T} (h : FlexT t u) {w : World} {v : Value} {i b : Nat} (hb : u.blocks w v i = some b) : t.blocks w v i = some b := by
  cases h with
  | refl => exact hb
  | none => simp [T.blocks] at hb
  | nil sz => simpa [T.blocks] using hb
  | frz sz rows => simp [T.blocks] at hb
  | box h =>
    unfold T.blocks at hb ⊢
    dsimp only at hb ⊢
    split
    · rename_i hi; rw [if_pos hi] at hb; exact hb
    · rename_i hi
      rw [if_neg hi] at hb
      split at hb
      · rename_i sz rows b' e1 e2
        obtain ⟨a, ha, hf⟩ := h.at e1
        cases hf with
        | refl => rw [ha, e2]; exact hb
        | nil => rw [ha, e2]; exact hb
      · cases hb
  | fbox h => simp [T.blocks] at hb
theorem FlexT.target {t u : T} (h : FlexT t u) {y : Nat} (hy : u.target = some y) : t.target = some y := by
  cases h <;> first | exact hy | cases hy

theorem OwnL.nil0 {w : World} {I I' : Nat → Prop} {x : Value} (h : OwnL w I x 0 []) (sz : Nat) : OwnL w I' x sz [] := by
  rcases h with ⟨h, _⟩ | ⟨h, _⟩
  · exact .inl ⟨h, rfl⟩
  · omega
theorem FlexT.rep {t u : T} (h : FlexT t u) {w : World} {I I' : Nat → Prop} {ρ : Nat → Value} {v : Value} (hI : ∀ b, I b → I' b) (hb : ∀ i b, u ≠ .none → t.blocks w v i = some b → u.blocks w v i ≠ some b → I' b) (hr : RepV w I ρ v t) : RepV w I' ρ v u := by
  have same : ∀ t, RepV w I ρ v t → RepV w I' ρ v t := fun t hr => RepV.mono (fun _ _ => rfl) hI (fun _ _ _ => rfl) (fun _ _ _ _ _ => rfl) hr
  cases h with
  | refl => exact same _ hr
  | none => trivial
  | nil sz => exact OwnL.nil0 hr sz
  | frz sz rows => exact OwnL.data hr hI (fun b e => hb 0 b (by simp) (by simp [T.blocks, e]) (by simp [T.blocks]))
  | @box ls ms h =>
    obtain ⟨b, e, cs, h1, h2, h3, h4⟩ := hr
    refine ⟨b, e, cs, h1, h2, h3.trans h.length, fun j lf hj => ?_⟩
    obtain ⟨a, ha, hf⟩ := h.at hj
    have hra := h4 j a ha
    cases hf with
    | refl => exact RepLf.mono (fun _ _ => rfl) hI (fun _ _ _ _ _ => rfl) hra
    | nil sz => exact OwnL.nil0 hra sz
    | frz sz rows =>
      refine OwnL.data hra hI (fun b' e' => hb (j + 1) b' (by simp) ?_ ?_)
      · have hjs : j < cs.size := by rw [h3]; exact (List.getElem?_eq_some_iff.1 ha).1
        have hcell : w.cell? ⟨b, j, Option.none⟩ = some (cs.getD j undef) := by
          simp [World.cell?, h2, Array.getD_eq_getD_getElem?, Array.getElem?_eq_getElem hjs]
        simp only [Array.getD_eq_getD_getElem?] at e'
        simp [T.blocks, ha, h1, ptrBlock, hcell, e']
      · simp [T.blocks, hj]
  | @fbox ls ds h =>
    obtain ⟨b, e, cs, h1, h2, h3, h4⟩ := hr
    have hlen := h.length
    rw [List.length_map] at hlen
    refine ⟨b, 0, cs.toList, h1, fun _ => hb 0 b (by simp) (by simp [T.blocks, h1, ptrBlock]) (by simp [T.blocks]), ⟨by simp [h3, hlen], fun j d v hd hv => ?_⟩, fun j v hj => ?_⟩
    · obtain ⟨a, ha, hf⟩ := h.at (show (ds.map Leaf.d)[j]? = some (Leaf.d d) by rw [List.getElem?_map, hd]; rfl)
      have hra := h4 j a ha
      have hcv : cs.getD j undef = v := by
        rw [Array.getElem?_toList] at hv
        simp [Array.getD_eq_getD_getElem?, hv]
      rw [hcv] at hra
      cases hf with
      | refl => exact RepD.mono (fun _ _ => rfl) hI hra
      | frz sz rows =>
        refine OwnL.data hra hI (fun b' e' => hb (j + 1) b' (by simp) ?_ (by simp [T.blocks]))
        have hjs : j < cs.size := by rw [h3]; exact (List.getElem?_eq_some_iff.1 ha).1
        have hcell : w.cell? ⟨b, j, Option.none⟩ = some (cs.getD j undef) := by
          simp [World.cell?, h2, Array.getD_eq_getD_getElem?, Array.getElem?_eq_getElem hjs]
        rw [hcv] at hcell
        simp [T.blocks, ha, h1, ptrBlock, hcell, e']
    · rw [Nat.zero_add]
      rw [Array.getElem?_toList] at hj
      have hjs : j < cs.size := (Array.getElem?_eq_some_iff.1 hj).1
      simp [World.cell?, h2, Array.getElem?_eq_getElem hjs] at hj ⊢
      exact hj

theorem Inv.flex {w0 w : World} {ext I : Nat → Prop} {s s' : S} {ts : Array Value} (inv : Inv w0 ext I s ts w) (hf : Flex s s') : ∃ I', (∀ b, I b → I' b) ∧ (∀ b, I' b → I b ∨ Mine w0 ext b) ∧ Inv w0 ext I' s' ts w := by
  have hts : s'.ts = s.ts ∧ s'.n = s.n := by cases hf; exact ⟨rfl, rfl⟩
  have hget : ∀ x, FlexT (s.get x) (s'.get x) := by
    intro x
    cases hf with
    | mk h =>
      rename_i n ts0 l m
      cases hl : look ts0 x with
      | some t => simp only [S.get, hl, Option.getD_some]; exact .refl _
      | none =>
        rcases h.look x with ⟨e1, e2⟩ | ⟨t, u, e1, e2, hh⟩
        · simp only [S.get, hl, e1, e2, Option.getD_none]; exact .refl _
        · simp only [S.get, hl, e1, e2, Option.getD_none, Option.getD_some]; exact hh
  have hvar : ∀ x, s'.isVar x = s.isVar x := by
    intro x
    cases hf with
    | mk h =>
      rcases h.look x with ⟨e1, e2⟩ | ⟨t, u, e1, e2, hh⟩ <;> simp [S.isVar, e1, e2]
  have key : ∀ x i b, (s'.get x).blocks w (val ts x) i = some b → (s.get x).blocks w (val ts x) i = some b := fun x i b e => (hget x).blocks e
  refine ⟨fun b => I b ∨ ∃ x i, s'.get x ≠ .none ∧ (s.get x).blocks w (val ts x) i = some b ∧ (s'.get x).blocks w (val ts x) i ≠ some b, fun b hb => .inl hb, fun b hb => ?_, ?_⟩
  · rcases hb with hb | ⟨x, i, e1, e2, e3⟩
    · exact .inl hb
    · exact .inr (inv.away x i b e2).2.2
  · refine ⟨inv.size.trans hts.2.symm, fun x => ?_, fun x i y j b e1 e2 => inv.inj x i y j b (key _ _ _ e1) (key _ _ _ e2), fun x i b e => ?_, fun b hb => ?_, fun x y e => ?_, fun x e => ⟨by rw [hts.1]; exact (inv.vtgt x (by rw [← hvar]; exact e)).1, ?_⟩, inv.fr⟩
    · exact (hget x).rep (fun b hb => .inl hb) (fun i b e1 e2 e3 => .inr ⟨x, i, e1, e2, e3⟩) (inv.rep x)
    · obtain ⟨a1, a2, a3⟩ := inv.away x i b (key _ _ _ e)
      refine ⟨fun hb => ?_, a2, a3⟩
      rcases hb with hb | ⟨y, j, _, e2, e3⟩
      · exact a1 hb
      · obtain ⟨rfl, rfl⟩ := inv.inj x i y j b (key _ _ _ e) e2
        exact e3 e
    · rcases hb with hb | ⟨x, i, _, e2, _⟩
      · exact inv.Ilt b hb
      · exact (inv.away x i b e2).2.1
    · rw [hvar]; exact inv.tgt x y ((hget x).target e)
    · rw [hvar] at e
      have ht := (inv.vtgt x e).2
      cases hu : (s'.get x).target with
      | none => rfl
      | some y => rw [(hget x).target hu] at ht; cases ht
theorem Ok.flex {w0 w : World} {ext I0 : Nat → Prop} {s s' : S} {a : Act} (h : Ok w0 ext I0 s a w) (hf : Flex s s') : Ok w0 ext I0 s' a w := by
  obtain ⟨hd, I, h1, h2, inv⟩ := h
  obtain ⟨I', k1, k2, inv'⟩ := inv.flex hf
  exact ⟨hd, I', fun b hb => k1 b (h1 b hb), fun b hb => (k2 b hb).elim (h2 b) .inr, inv'⟩
/-- Leaves in a part of a box are data from now on. -/
def frzLs (off n : Nat) : List Leaf → List Leaf
  | [] => []
  | l :: r => (match off, n with
    | 0, 0 => l
    | 0, _ + 1 => (match l with
      | .own _ rows => .d (.l rows)
      | l => l)
    | _ + 1, _ => l) :: frzLs (off - 1) (if off = 0 then n - 1 else n) r
theorem frzLs_flex (off n : Nat) (l : List Leaf) : FlexB l (frzLs off n l) := by
  induction l generalizing off n with
  | nil => exact .nil
  | cons l r ih =>
    refine .cons ?_ (ih _ _)
    split
    · exact .refl _
    · split
      · exact .frz _ _
      · exact .refl _
    · exact .refl _
theorem FlexV.upd {l : List (Nat × T)} {y : Nat} {t u : T} (h : Go.Ax.look l y = some t) (hf : FlexT t u) : FlexV l (setv l y u) := by
  induction l with
  | nil => exact .nil
  | cons p l ih =>
    obtain ⟨k, v⟩ := p
    simp only [Go.Ax.look] at h
    simp only [setv]
    by_cases e : k = y
    · rw [if_pos e] at h ⊢
      cases h
      exact .cons hf (FlexV.rfl' _)
    · rw [if_neg e] at h ⊢
      exact .cons (.refl _) (ih h)
end Go.Ax

/- Calls that hand over lists and boxes: what holds behind them. -/
set_option linter.unusedVariables false
set_option linter.unusedSimpArgs false
namespace Go.Ax
open Go

section
variable {w0 w w' : World} {ext I : Nat → Prop} {s : S} {ts : Array Value} {vs : Nat → Value} {tt : Nat → T}

/-- A state, and what has been taken from it. -/
structure With (w0 : World) (ext I : Nat → Prop) (s : S) (ts : Array Value) (w : World) (vs : Nat → Value) (tt : Nat → T) : Prop where
  inv : Inv w0 ext I s ts w
  hold : Hold w0 ext I w vs tt
  sep : ∀ x i y j b, (s.get x).blocks w (val ts x) i = some b → (tt y).blocks w (vs y) j ≠ some b

theorem With.nil (inv : Inv w0 ext I s ts w) : With w0 ext I s ts w (fun _ => undef) (fun _ => .none) :=
  ⟨inv, ⟨fun _ => trivial, fun x i y j b e => by simp [T.blocks] at e, fun x i b e => by simp [T.blocks] at e⟩, fun x i y j b _ e => by simp [T.blocks] at e⟩

theorem With.data (h : With w0 ext I s ts w vs tt) {v : Value} {t : T} (hrep : RepV w I (fun _ => undef) v t) (hb : ∀ i, t.blocks w v i = none) : With w0 ext I s ts w (consF v vs) (consF t tt) := by
  refine ⟨h.inv, ⟨fun x => ?_, fun x i y j b e1 e2 => ?_, fun x i b e => ?_⟩, fun x i y j b e1 e2 => ?_⟩
  · cases x with
    | zero => exact hrep
    | succ x => exact h.hold.rep x
  · cases x with
    | zero => simp only [consF] at e1; rw [hb] at e1; cases e1
    | succ x => cases y with
      | zero => simp only [consF] at e2; rw [hb] at e2; cases e2
      | succ y =>
        obtain ⟨h1, h2⟩ := h.hold.inj x i y j b e1 e2
        exact ⟨by rw [h1], h2⟩
  · cases x with
    | zero => simp only [consF] at e; rw [hb] at e; cases e
    | succ x => exact h.hold.away x i b e
  · cases y with
    | zero => simp only [consF] at e2; rw [hb] at e2; cases e2
    | succ y => exact h.sep x i y j b e1 e2

theorem With.moved (h : With w0 ext I s ts w vs tt) {s' : S} {v : Value} {t : T} (hinv : Inv w0 ext I s' ts w)
    (hsub : ∀ x i b, (s'.get x).blocks w (val ts x) i = some b → (s.get x).blocks w (val ts x) i = some b)
    (hsep : ∀ x i j b, (s'.get x).blocks w (val ts x) i = some b → t.blocks w v j ≠ some b)
    (hfrom : ∀ j b, t.blocks w v j = some b → ∃ x i, (s.get x).blocks w (val ts x) i = some b)
    (hinj : ∀ i j b, t.blocks w v i = some b → t.blocks w v j = some b → i = j)
    (hrep : RepV w I (fun _ => undef) v t) : With w0 ext I s' ts w (consF v vs) (consF t tt) := by
  have cross : ∀ i y j b, t.blocks w v i = some b → (tt y).blocks w (vs y) j = some b → False := fun i y j b e1 e2 => by
    obtain ⟨x, i', e3⟩ := hfrom i b e1
    exact h.sep x i' y j b e3 e2
  refine ⟨hinv, ⟨fun x => ?_, fun x i y j b e1 e2 => ?_, fun x i b e => ?_⟩, fun x i y j b e1 e2 => ?_⟩
  · cases x with
    | zero => exact hrep
    | succ x => exact h.hold.rep x
  · cases x with
    | zero => cases y with
      | zero => exact ⟨rfl, hinj i j b e1 e2⟩
      | succ y => exact (cross i y j b e1 e2).elim
    | succ x => cases y with
      | zero => exact (cross j x i b e2 e1).elim
      | succ y =>
        obtain ⟨h1, h2⟩ := h.hold.inj x i y j b e1 e2
        exact ⟨by rw [h1], h2⟩
  · cases x with
    | zero =>
      obtain ⟨x, i', e3⟩ := hfrom i b e
      exact h.inv.away x i' b e3
    | succ x => exact h.hold.away x i b e
  · cases y with
    | zero => exact hsep x i j b e1 e2
    | succ y => exact h.sep x i y j b (hsub x i b e1) e2

/-- Its slots are told as they lie. -/
def Vt (s : S) : Prop := ∀ x, s.isVar x = true → look s.ts x = none
def XE.Ok (s : S) : XE → Prop
  | .no => True
  | .drop t => s.isVar t = false
  | .none y => s.isVar y = true
  | .hole y _ => s.isVar y = true
  | .bx y => s.isVar y = true
  | .ln y _ _ => s.isVar y = true
def XE.blank : XE → S → S
  | .drop t, s => s.drop t
  | .none y, s => s.upd y .none
  | .hole y cells, s => s.upd y (.box cells)
  | .bx y, s => s.upd y .none
  | .ln y _ _, s => s.upd y .none
  | .no, s => s
def blanks : List XE → S → S
  | [], s => s
  | e :: r, s => e.blank (blanks r s)

theorem upd_vt {s : S} (h : Vt s) (y : Nat) (t : T) : Vt (s.upd y t) := fun x hx => by
  rw [S.upd_isVar] at hx
  exact h x hx
theorem drop_vt {s : S} (h : Vt s) {t : Nat} (ht : s.isVar t = false) : Vt (s.drop t) := fun x hx => by
  have hx' : s.isVar x = true := hx
  have : t ≠ x := fun e => by rw [e, hx'] at ht; cases ht
  simp only [S.drop, look, if_neg this]
  exact h x hx'
theorem drop_get (s : S) (t z : Nat) : (s.drop t).get z = if t = z then .none else s.get z := S.get_putT s t .none z

theorem take_same (e : XE) (s : S) : (e.take s).n = s.n ∧ ∀ x, (e.take s).isVar x = s.isVar x := by
  cases e <;> exact ⟨rfl, fun x => by first | rfl | exact S.upd_isVar _ _ _ _⟩
theorem takes_same : ∀ (es : List XE) (s : S), (takes es s).n = s.n ∧ ∀ x, (takes es s).isVar x = s.isVar x
  | [], s => ⟨rfl, fun _ => rfl⟩
  | e :: r, s => ⟨(take_same e _).1.trans (takes_same r s).1, fun x => ((take_same e _).2 x).trans ((takes_same r s).2 x)⟩
theorem blank_same (e : XE) (s : S) : (e.blank s).n = s.n ∧ ∀ x, (e.blank s).isVar x = s.isVar x := by
  cases e <;> exact ⟨rfl, fun x => by first | rfl | exact S.upd_isVar _ _ _ _⟩
theorem blanks_same : ∀ (es : List XE) (s : S), (blanks es s).n = s.n ∧ ∀ x, (blanks es s).isVar x = s.isVar x
  | [], s => ⟨rfl, fun _ => rfl⟩
  | e :: r, s => ⟨(blank_same e _).1.trans (blanks_same r s).1, fun x => ((blank_same e _).2 x).trans ((blanks_same r s).2 x)⟩
theorem give_same (e : XE) (o : List Leaf) (s : S) : (e.give o s).n = s.n ∧ ∀ x, (e.give o s).isVar x = s.isVar x := by
  cases e <;> exact ⟨rfl, fun x => by first | rfl | exact S.upd_isVar _ _ _ _⟩
theorem gives_same : ∀ (es : List XE) (os : List (List Leaf)) (s : S), (gives es os s).n = s.n ∧ ∀ x, (gives es os s).isVar x = s.isVar x
  | [], _, s => ⟨rfl, fun _ => rfl⟩
  | e :: r, os, s => ⟨(give_same e _ _).1.trans (gives_same r _ s).1, fun x => ((give_same e _ _).2 x).trans ((gives_same r _ s).2 x)⟩

theorem XE.Ok.iff {s s' : S} (h : ∀ x, s'.isVar x = s.isVar x) {e : XE} (he : e.Ok s) : e.Ok s' := by
  cases e <;> simp only [XE.Ok] at he ⊢ <;> rw [h] <;> exact he
theorem takes_vt {s : S} (h : Vt s) : ∀ {es : List XE}, (∀ e ∈ es, e.Ok s) → Vt (takes es s)
  | [], _ => h
  | e :: r, ho => by
    have hr := takes_vt h (es := r) fun e he => ho e (by simp [he])
    have he : e.Ok (takes r s) := (ho e (by simp)).iff (takes_same r s).2
    cases e with
    | no => exact hr
    | drop t => exact drop_vt hr he
    | none y => exact upd_vt hr _ _
    | hole y c => exact upd_vt hr _ _
    | bx y => exact hr
    | ln y _ _ => exact hr
theorem blanks_vt {s : S} (h : Vt s) : ∀ {es : List XE}, (∀ e ∈ es, e.Ok s) → Vt (blanks es s)
  | [], _ => h
  | e :: r, ho => by
    have hr := blanks_vt h (es := r) fun e he => ho e (by simp [he])
    have he : e.Ok (blanks r s) := (ho e (by simp)).iff (blanks_same r s).2
    cases e with
    | no => exact hr
    | drop t => exact drop_vt hr he
    | none y => exact upd_vt hr _ _
    | hole y c => exact upd_vt hr _ _
    | bx y => exact upd_vt hr _ _
    | ln y _ _ => exact upd_vt hr _ _
theorem gives_vt {s : S} (h : Vt s) : ∀ {es : List XE} {os : List (List Leaf)}, Vt (gives es os s)
  | [], _ => h
  | e :: r, os => by
    have hr := gives_vt h (es := r) (os := os.tail)
    cases e with
    | bx y => exact upd_vt hr _ _
    | _ => exact hr

theorem notIn_spec {x : Nat} : ∀ {l : List Nat}, notIn x l = true → x ∉ l
  | [], _ => by simp
  | y :: r, h => by
    simp only [notIn, Bool.and_eq_true, Bool.not_eq_true', beq_eq_false_iff_ne, ne_eq] at h
    simp only [List.mem_cons, not_or]
    exact ⟨h.1, notIn_spec h.2⟩
theorem distinct_cons {x : Nat} {l : List Nat} (h : distinct (x :: l) = true) : x ∉ l ∧ distinct l = true := by
  simp only [distinct, Bool.and_eq_true] at h
  exact ⟨notIn_spec h.1, h.2⟩
theorem distinct_app {e : XE} {r : List XE} (h : distinct ((e :: r).flatMap XE.slot) = true) : (∀ z ∈ e.slot, ∀ e' ∈ r, z ∉ e'.slot) ∧ distinct (r.flatMap XE.slot) = true := by
  cases e with
  | no => exact ⟨(by simp [XE.slot]), h⟩
  | drop t => obtain ⟨h1, h2⟩ := distinct_cons (x := t) (l := r.flatMap XE.slot) h; exact ⟨fun z hz e' he' hz' => h1 (List.mem_flatMap.2 ⟨e', he', by simp only [XE.slot, List.mem_singleton] at hz; subst hz; exact hz'⟩), h2⟩
  | none t => obtain ⟨h1, h2⟩ := distinct_cons (x := t) (l := r.flatMap XE.slot) h; exact ⟨fun z hz e' he' hz' => h1 (List.mem_flatMap.2 ⟨e', he', by simp only [XE.slot, List.mem_singleton] at hz; subst hz; exact hz'⟩), h2⟩
  | hole t c => obtain ⟨h1, h2⟩ := distinct_cons (x := t) (l := r.flatMap XE.slot) h; exact ⟨fun z hz e' he' hz' => h1 (List.mem_flatMap.2 ⟨e', he', by simp only [XE.slot, List.mem_singleton] at hz; subst hz; exact hz'⟩), h2⟩
  | ln t _ _ => obtain ⟨h1, h2⟩ := distinct_cons (x := t) (l := r.flatMap XE.slot) h; exact ⟨fun z hz e' he' hz' => h1 (List.mem_flatMap.2 ⟨e', he', by simp only [XE.slot, List.mem_singleton] at hz; subst hz; exact hz'⟩), h2⟩
  | bx t => obtain ⟨h1, h2⟩ := distinct_cons (x := t) (l := r.flatMap XE.slot) h; exact ⟨fun z hz e' he' hz' => h1 (List.mem_flatMap.2 ⟨e', he', by simp only [XE.slot, List.mem_singleton] at hz; subst hz; exact hz'⟩), h2⟩

theorem distinct_uniq : ∀ {es : List XE} {e1 e2 : XE} {z : Nat}, distinct (es.flatMap XE.slot) = true → e1 ∈ es → e2 ∈ es → z ∈ e1.slot → z ∈ e2.slot → e1 = e2
  | [], _, _, _, _, h, _, _, _ => by cases h
  | a :: r, e1, e2, z, hd, h1, h2, z1, z2 => by
    obtain ⟨d1, d2⟩ := distinct_app hd
    rcases List.mem_cons.1 h1 with k1 | k1
    · rcases List.mem_cons.1 h2 with k2 | k2
      · rw [k1, k2]
      · exact absurd z2 (d1 z (k1 ▸ z1) e2 k2)
    · rcases List.mem_cons.1 h2 with k2 | k2
      · exact absurd z1 (d1 z (k2 ▸ z2) e1 k1)
      · exact distinct_uniq d2 k1 k2 z1 z2
/-- Where it comes back to; what comes back. -/
def XE.home : XE → Option Nat
  | .bx y => some y
  | .ln y _ _ => some y
  | _ => Option.none
def XE.back : XE → List Leaf → T
  | .bx _, o => .box o
  | .ln _ sz rows, _ => .own sz rows
  | _, _ => .none
theorem XE.home_slot {e : XE} {z : Nat} (h : e.home = some z) : z ∈ e.slot := by
  cases e <;> simp only [XE.home, reduceCtorEq, Option.some.injEq] at h <;> (subst h; simp [XE.slot])
/-- Which of them comes back to a slot. -/
def bxAt : List XE → Nat → Option Nat
  | [], _ => none
  | e :: r, z => if e.home = some z then some 0 else (bxAt r z).map (· + 1)
def eT : List XE → List (List Leaf) → Nat → T
  | [], _ => fun _ => .none
  | e :: r, os => consF (e.back (os.headD [])) (eT r os.tail)
theorem bxAt_none : ∀ {es : List XE} {z : Nat}, (∀ e ∈ es, z ∉ e.slot) → bxAt es z = none
  | [], _, _ => rfl
  | e :: r, z, h => by
    simp only [bxAt]
    rw [if_neg fun hh => h e (by simp) (XE.home_slot hh), bxAt_none fun e he => h e (by simp [he])]
    rfl
theorem takes_keep {s : S} (h : Vt s) {y : Nat} : ∀ {es : List XE}, (∀ e ∈ es, e.Ok s) → (∀ e ∈ es, y ∈ e.slot → e.home = some y) → (takes es s).get y = s.get y
  | [], _, _ => rfl
  | e :: r, ho, hz => by
    have hor : ∀ e ∈ r, e.Ok s := fun e he => ho e (by simp [he])
    have ih := takes_keep h (y := y) (es := r) hor fun e he => hz e (by simp [he])
    have t2 := takes_vt h hor
    have he := ho e (by simp)
    have v2 := (takes_same r s).2
    have hh := hz e (by simp)
    cases e with
    | no => exact ih
    | bx y => exact ih
    | ln y _ _ => exact ih
    | drop t =>
      have hne : t ≠ y := fun e => by have := hh (by simp [XE.slot, e]); cases this
      simp only [takes, XE.take, drop_get, if_neg hne, ih]
    | none t =>
      have hne : t ≠ y := fun e => by have := hh (by simp [XE.slot, e]); cases this
      have hv : s.isVar t = true := he
      simp only [takes, XE.take]
      rw [S.get_upd _ _ _ ((v2 t).trans hv) (t2 t ((v2 t).trans hv)), if_neg hne, ih]
    | hole t c =>
      have hne : t ≠ y := fun e => by have := hh (by simp [XE.slot, e]); cases this
      have hv : s.isVar t = true := he
      simp only [takes, XE.take]
      rw [S.get_upd _ _ _ ((v2 t).trans hv) (t2 t ((v2 t).trans hv)), if_neg hne, ih]

theorem takes_blanks {s : S} (h : Vt s) : ∀ {es : List XE}, (∀ e ∈ es, e.Ok s) → ∀ z, bxAt es z = none → (takes es s).get z = (blanks es s).get z
  | [], _, z, _ => rfl
  | e :: r, ho, z, hz => by
    have hor : ∀ e ∈ r, e.Ok s := fun e he => ho e (by simp [he])
    have ih := takes_blanks h (es := r) hor z
    have t1 := takes_vt h hor
    have t2 := blanks_vt h hor
    have he := ho e (by simp)
    have v1 := (takes_same r s).2
    have v2 := (blanks_same r s).2
    cases e with
    | no => simp only [bxAt, XE.home, reduceCtorEq, if_false, Option.map_eq_none_iff] at hz; exact ih hz
    | drop t =>
      simp only [bxAt, XE.home, reduceCtorEq, if_false, Option.map_eq_none_iff] at hz
      simp only [takes, blanks, XE.take, XE.blank, drop_get, ih hz]
    | none y =>
      simp only [bxAt, XE.home, reduceCtorEq, if_false, Option.map_eq_none_iff] at hz
      have hv : s.isVar y = true := he
      simp only [takes, blanks, XE.take, XE.blank]
      rw [S.get_upd _ _ _ ((v1 y).trans hv) (t1 y ((v1 y).trans hv)), S.get_upd _ _ _ ((v2 y).trans hv) (t2 y ((v2 y).trans hv)), ih hz]
    | hole y c =>
      simp only [bxAt, XE.home, reduceCtorEq, if_false, Option.map_eq_none_iff] at hz
      have hv : s.isVar y = true := he
      simp only [takes, blanks, XE.take, XE.blank]
      rw [S.get_upd _ _ _ ((v1 y).trans hv) (t1 y ((v1 y).trans hv)), S.get_upd _ _ _ ((v2 y).trans hv) (t2 y ((v2 y).trans hv)), ih hz]
    | bx y =>
      simp only [bxAt, XE.home, Option.some.injEq] at hz
      split at hz
      · cases hz
      · rename_i hne
        simp only [Option.map_eq_none_iff] at hz
        have hv : s.isVar y = true := he
        simp only [takes, blanks, XE.take, XE.blank]
        rw [S.get_upd _ _ _ ((v2 y).trans hv) (t2 y ((v2 y).trans hv)), if_neg hne, ih hz]
    | ln y _ _ =>
      simp only [bxAt, XE.home, Option.some.injEq] at hz
      split at hz
      · cases hz
      · rename_i hne
        simp only [Option.map_eq_none_iff] at hz
        have hv : s.isVar y = true := he
        simp only [takes, blanks, XE.take, XE.blank]
        rw [S.get_upd _ _ _ ((v2 y).trans hv) (t2 y ((v2 y).trans hv)), if_neg hne, ih hz]

theorem gives_get {s0 s : S} (h : Vt s0) (hv0 : ∀ x, s0.isVar x = s.isVar x) : ∀ {es : List XE} {os : List (List Leaf)}, (∀ e ∈ es, e.Ok s) → distinct (es.flatMap XE.slot) = true → (∀ y sz rows, .ln y sz rows ∈ es → s0.get y = .own sz rows) →
    ∀ z, (gives es os s0).get z = match bxAt es z with | some k => eT es os k | none => s0.get z
  | [], _, _, _, _, z => rfl
  | e :: r, os, ho, hd, hl, z => by
    have hor : ∀ e ∈ r, e.Ok s := fun e he => ho e (by simp [he])
    obtain ⟨d1, d2⟩ := distinct_app hd
    have ih := gives_get h hv0 (es := r) (os := os.tail) hor d2 (fun y sz rows hm => hl y sz rows (by simp [hm]))
    have he := ho e (by simp)
    have step : (match (bxAt r z).map (· + 1) with | some k => eT (e :: r) os k | none => s0.get z) = match bxAt r z with | some k => eT r os.tail k | none => s0.get z := by
      cases bxAt r z <;> rfl
    cases e with
    | bx y =>
      have hv : s.isVar y = true := he
      have hv' : (gives r os.tail s0).isVar y = true := ((gives_same r _ s0).2 y).trans ((hv0 y).trans hv)
      simp only [gives, XE.give, bxAt, XE.home, Option.some.injEq]
      rw [S.get_upd _ _ _ hv' (gives_vt h y hv')]
      by_cases hyz : y = z
      · rw [if_pos hyz, if_pos hyz]; rfl
      · rw [if_neg hyz, if_neg hyz, ih]; exact step.symm
    | ln y sz rows =>
      simp only [gives, XE.give, bxAt, XE.home, Option.some.injEq]
      rw [ih]
      by_cases hyz : y = z
      · subst hyz
        rw [if_pos rfl, bxAt_none (d1 y (by simp [XE.slot]))]
        exact hl y sz rows (by simp)
      · rw [if_neg hyz]; exact step.symm
    | no => simp only [gives, XE.give, bxAt, XE.home, reduceCtorEq, if_false]; rw [ih]; exact step.symm
    | drop t => simp only [gives, XE.give, bxAt, XE.home, reduceCtorEq, if_false]; rw [ih]; exact step.symm
    | none y => simp only [gives, XE.give, bxAt, XE.home, reduceCtorEq, if_false]; rw [ih]; exact step.symm
    | hole y c => simp only [gives, XE.give, bxAt, XE.home, reduceCtorEq, if_false]; rw [ih]; exact step.symm

/-- Blanked slots apart nothing is turned. -/
theorem blanks_get {s : S} (h : Vt s) : ∀ {es : List XE}, (∀ e ∈ es, e.Ok s) → ∀ z, (∀ e ∈ es, z ∉ e.slot) → (blanks es s).get z = s.get z
  | [], _, z, _ => rfl
  | e :: r, ho, z, hz => by
    have hor : ∀ e ∈ r, e.Ok s := fun e he => ho e (by simp [he])
    have ih := blanks_get h (es := r) hor z fun e he => hz e (by simp [he])
    have t2 := blanks_vt h hor
    have he := ho e (by simp)
    have v2 := (blanks_same r s).2
    have hne := hz e (by simp)
    cases e with
    | no => exact ih
    | drop t =>
      simp only [XE.slot, List.mem_singleton] at hne
      simp only [blanks, XE.blank, drop_get, if_neg (Ne.symm hne), ih]
    | none y =>
      simp only [XE.slot, List.mem_singleton] at hne
      have hv : s.isVar y = true := he
      simp only [blanks, XE.blank]
      rw [S.get_upd _ _ _ ((v2 y).trans hv) (t2 y ((v2 y).trans hv)), if_neg (Ne.symm hne), ih]
    | hole y c =>
      simp only [XE.slot, List.mem_singleton] at hne
      have hv : s.isVar y = true := he
      simp only [blanks, XE.blank]
      rw [S.get_upd _ _ _ ((v2 y).trans hv) (t2 y ((v2 y).trans hv)), if_neg (Ne.symm hne), ih]
    | bx y =>
      simp only [XE.slot, List.mem_singleton] at hne
      have hv : s.isVar y = true := he
      simp only [blanks, XE.blank]
      rw [S.get_upd _ _ _ ((v2 y).trans hv) (t2 y ((v2 y).trans hv)), if_neg (Ne.symm hne), ih]
    | ln y _ _ =>
      simp only [XE.slot, List.mem_singleton] at hne
      have hv : s.isVar y = true := he
      simp only [blanks, XE.blank]
      rw [S.get_upd _ _ _ ((v2 y).trans hv) (t2 y ((v2 y).trans hv)), if_neg (Ne.symm hne), ih]

theorem p_el {cells : List D} {u : Value} (h : RepD w I (.p cells) u) : RepV w I (fun _ => undef) u (.el cells) := by
  cases h with
  | p _ b o vals hIb ha hv' =>
    refine ⟨b, o, (List.range cells.length).map vals, rfl, hIb, ⟨by simp, fun j d u h1 h2 => ?_⟩, fun j u h2 => ?_⟩
    · have hj : j < cells.length := (List.getElem?_eq_some_iff.1 h1).1
      simp [List.getElem?_map, List.getElem?_range, hj] at h2
      subst h2
      exact hv' j d h1
    · have hj : j < cells.length := by have := (List.getElem?_eq_some_iff.1 h2).1; simpa using this
      simp [List.getElem?_map, List.getElem?_range, hj] at h2
      subst h2
      exact ha j hj
theorem one_tt {d : D} {u : Value} (h : RepD w I d u) : RepV w I (fun _ => undef) u (XA.tt (.d (false, [d]))) ∧ ∀ i, (XA.tt (.d (false, [d]))).blocks w u i = none := by
  cases d with
  | p cells => exact ⟨p_el h, fun _ => rfl⟩
  | v x => exact ⟨h, fun _ => rfl⟩
  | l rows => exact ⟨h, fun _ => rfl⟩
  | c f caps => exact ⟨h, fun _ => rfl⟩

/-- ONE ARGUMENT IS TAKEN; σ: what the others have left. -/
theorem xarg_sound {ds : List Deferred} {σ : S} (h : With w0 ext I σ ts w vs tt) (inv0 : Inv w0 ext I s ts w) {l : Bool} {x : Operand} {A : XA} {e : XE} (hx : xarg s l x = some (A, e))
    (hag : ∀ z ∈ e.slot, σ.get z = s.get z) (hvar : ∀ z, σ.isVar z = s.isVar z) : e.Ok s ∧
    With w0 ext I (e.blank σ) ts w (consF (Act.eval ⟨ts, ds⟩ x) vs) (consF A.tt tt) ∧ (∀ y, e.home = some y → Act.eval ⟨ts, ds⟩ x = val ts y) ∧ ∀ o, A.out o = e.back o := by
  have hr := opd_sound (ds := ds) inv0 x
  have et : (ev s x).t = opd s x := rfl
  unfold xarg at hx
  rw [et] at hx
  split at hx
  · rename_i d e1
    rw [e1] at hr
    cases hx
    obtain ⟨a1, a2⟩ := one_tt (w := w) (I := I) hr
    exact ⟨trivial, h.data a1 a2, (by intro y e; cases e), fun _ => rfl⟩
  · rename_i es e1
    rw [e1] at hr
    cases hx
    exact ⟨trivial, h.data (t := .agg es) hr (fun _ => rfl), (by intro y e; cases e), fun _ => rfl⟩
  · rename_i cells e1
    rw [e1] at hr
    cases hx
    exact ⟨trivial, h.data (t := .el cells) (RepV.slots (fun y hy => by cases hy) hr) (fun _ => rfl), (by intro y e; cases e), fun _ => rfl⟩
  · rename_i sz rows e1
    rw [e1] at hr
    obtain ⟨t, rfl, hg, hv⟩ := opd_own e1
    cases hx
    have hσ : σ.get t = .own sz rows := (hag t (by simp [XE.slot])).trans hg
    have hσv : σ.isVar t = false := (hvar t).trans hv
    refine ⟨hv, h.moved (t := .own sz rows) (h.inv.drop hσv) (fun z i b e => ?_) (fun z i j b e e2 => ?_) (fun j b e => ?_) (fun i j b e1 e2 => ?_) hr, (by intro y e; cases e), fun _ => rfl⟩
    · simp only [XE.blank, drop_get] at e
      split at e
      · simp [T.blocks] at e
      · exact e
    · simp only [XE.blank, drop_get] at e
      split at e
      · simp [T.blocks] at e
      · rename_i hne
        have hb : (σ.get t).blocks w (val ts t) j = some b := by rw [hσ]; exact e2
        exact hne (h.inv.inj t j z i b hb e).1
    · exact ⟨t, j, by rw [hσ]; exact e⟩
    · simp only [T.blocks] at e1 e2
      split at e1 <;> split at e2 <;> simp_all
  · rename_i y sz rows e1 e2
    rw [e1] at hr
    obtain ⟨h1, h2⟩ := ev_c inv0 x (y := y) (by rw [et, e1]; rfl)
    rw [e2] at h1 h2
    have hv : s.isVar y = true := opd_target inv0 x (by rw [e1]; rfl)
    have hr : Act.eval ⟨ts, ds⟩ x = val ts y := hr
    have key : ∀ {B : XA} {e' : XE}, B.tt = .own sz rows → e'.slot = [y] → e'.Ok s → (∀ σ : S, e'.blank σ = σ.upd y .none) → e'.slot = e.slot → With w0 ext I (e'.blank σ) ts w (consF (Act.eval ⟨ts, ds⟩ x) vs) (consF B.tt tt) := by
      intro B e' hB hs _ hbl hse
      have hσ : σ.get y = .own sz rows := (hag y (by rw [← hse, hs]; simp)).trans h1.symm
      have hσv : σ.isVar y = true := (hvar y).trans hv
      have hget := S.get_upd σ y .none hσv (h.inv.vtgt y hσv).1
      rw [hr, hB, hbl]
      refine h.moved (t := .own sz rows) (h.inv.lose hσv) (fun z i b e => ?_) (fun z i j b e e2 => ?_) (fun j b e => ?_) (fun i j b e1 e2 => ?_) h2
      · simp only [hget] at e
        split at e
        · simp [T.blocks] at e
        · exact e
      · simp only [hget] at e
        split at e
        · simp [T.blocks] at e
        · rename_i hne
          have hb : (σ.get y).blocks w (val ts y) j = some b := by rw [hσ]; exact e2
          exact hne (h.inv.inj y j z i b hb e).1
      · exact ⟨y, j, by rw [hσ]; exact e⟩
      · simp only [T.blocks] at e1 e2
        split at e1 <;> split at e2 <;> simp_all
    split at hx
    · cases hx
      exact ⟨hv, key rfl rfl hv (fun _ => rfl) rfl, (by rintro z ⟨⟩; exact hr), fun _ => rfl⟩
    · cases hx
      exact ⟨hv, key rfl rfl hv (fun _ => rfl) rfl, (by intro z e; cases e), fun _ => rfl⟩
  · rename_i y d e1 e2
    rw [e1] at hr
    cases hx
    obtain ⟨h1, h2⟩ := ev_c inv0 x (y := y) (by rw [et, e1]; rfl)
    rw [e2] at h2
    have hr : Act.eval ⟨ts, ds⟩ x = val ts y := hr
    rw [hr]
    obtain ⟨a1, a2⟩ := one_tt (w := w) (I := I) h2
    exact ⟨trivial, h.data a1 a2, (by intro y e; cases e), fun _ => rfl⟩
  · rename_i y off cells e1 e2
    split at hx
    · rename_i sz rows e3
      cases hx
      rw [e1] at hr
      obtain ⟨h1, h2⟩ := ev_c inv0 x (y := y) (by rw [et, e1]; rfl)
      rw [e2] at h1 h2
      have hv : s.isVar y = true := opd_target inv0 x (by rw [e1]; rfl)
      have hσ : σ.get y = .box cells := (hag y (by simp [XE.slot])).trans h1.symm
      have hσv : σ.isVar y = true := (hvar y).trans hv
      have hget := S.get_upd σ y (.box (cells.set off .hole)) hσv (h.inv.vtgt y hσv).1
      obtain ⟨b, f1, f2⟩ := hr
      obtain ⟨b', e, cs, g1, g2, g3, g4⟩ := h2
      rw [f1] at g1
      simp only [Value.pointer.injEq, Option.some.injEq, Addr.mk.injEq, and_true] at g1
      subst g1
      have hlt : off < cs.size := by rw [g3]; exact (List.getElem?_eq_some_iff.1 e3).1
      have hltc : off < cells.length := (List.getElem?_eq_some_iff.1 e3).1
      have hcell := box_cell g2 hlt
      rw [hcell] at f2
      have f2 := Option.some.inj f2
      have g5 := g4 off _ e3
      rw [f2] at g5
      have hsub : ∀ i c, (T.box (cells.set off .hole)).blocks w (val ts y) i = some c → (T.box cells).blocks w (val ts y) i = some c ∧ i ≠ off + 1 := by
        intro i c hb
        unfold T.blocks at hb ⊢
        dsimp only at hb ⊢
        split at hb
        · rename_i h0; subst h0; exact ⟨by simpa using hb, by omega⟩
        · rename_i h0
          by_cases ho : i - 1 = off
          · rw [ho] at hb
            simp [hltc] at hb
          · rw [show (cells.set off .hole)[i - 1]? = cells[i - 1]? from by simp [List.getElem?_set, Ne.symm ho]] at hb
            exact ⟨by rw [if_neg h0]; exact hb, by omega⟩
      have hat : ∀ j c, (T.own sz rows).blocks w (Act.eval ⟨ts, ds⟩ x) j = some c → j = 0 ∧ (T.box cells).blocks w (val ts y) (off + 1) = some c := by
        intro j c hb
        simp only [T.blocks] at hb
        split at hb
        · rename_i hj
          refine ⟨hj, ?_⟩
          unfold T.blocks
          dsimp only
          rw [if_neg (by omega), Nat.add_sub_cancel, e3, f1]
          simp only [ptrBlock, hcell, Option.bind_some, f2]
          exact hb
        · cases hb
      have hboxrep : RepV w I (val ts) (val ts y) (.box (cells.set off .hole)) := by
        refine ⟨b, e, cs, f1, g2, by simpa using g3, fun j lf hj => ?_⟩
        rw [List.getElem?_set] at hj
        split at hj
        · cases hj; trivial
        · exact g4 j lf hj
      have hinvy : ∀ i c, (T.box cells).blocks w (val ts y) i = some c → (σ.get y).blocks w (val ts y) i = some c := fun i c hb => by rw [hσ]; exact hb
      have hinv' : Inv w0 ext I (σ.upd y (.box (cells.set off .hole))) ts w := h.inv.upd hσv hboxrep rfl (fun i c hb => by
          have hb' := hinvy i c (hsub i c hb).1
          obtain ⟨a1, a2, a3⟩ := h.inv.away y i c hb'
          exact ⟨a1, a2, a3, fun x' j hne e4 => hne (h.inv.inj x' j y i c e4 hb').1⟩) (fun i j c b1 b2 => (h.inv.inj y i y j c (hinvy i c (hsub i c b1).1) (hinvy j c (hsub j c b2).1)).2)
      refine ⟨hv, h.moved (t := .own sz rows) hinv' (fun z i c e => ?_) (fun z i j c e e4 => ?_) (fun j c e => ?_) (fun i j c b1 b2 => ?_) g5, (by intro y e; cases e), fun _ => rfl⟩
      · simp only [XE.blank, hget] at e
        split at e
        · rename_i hz; subst hz; exact hinvy i c (hsub i c e).1
        · exact e
      · obtain ⟨rfl, hb2⟩ := hat j c e4
        simp only [XE.blank, hget] at e
        split at e
        · rename_i hz; subst hz
          obtain ⟨k1, k2⟩ := hsub i c e
          exact k2 (h.inv.inj y i y (off + 1) c (hinvy _ _ k1) (hinvy _ _ hb2)).2
        · rename_i hz
          exact hz (h.inv.inj y (off + 1) z i c (hinvy _ _ hb2) e).1
      · exact ⟨y, off + 1, hinvy _ _ (hat j c e).2⟩
      · exact ((hat i c b1).1).trans (hat j c b2).1.symm
    · cases hx
  · rename_i y cells e1 e2
    rw [e1] at hr
    cases hx
    obtain ⟨h1, h2⟩ := ev_c inv0 x (y := y) (by rw [et, e1]; rfl)
    rw [e2] at h1 h2
    have hv : s.isVar y = true := opd_target inv0 x (by rw [e1]; rfl)
    obtain ⟨b, r1, r2⟩ := hr
    have hr : Act.eval ⟨ts, ds⟩ x = val ts y := r2.trans r1.symm
    have hσ : σ.get y = .box cells := (hag y (by simp [XE.slot])).trans h1.symm
    have hσv : σ.isVar y = true := (hvar y).trans hv
    have hget := S.get_upd σ y .none hσv (h.inv.vtgt y hσv).1
    rw [hr]
    refine ⟨hv, h.moved (t := .box cells) (h.inv.lose hσv) (fun z i b e => ?_) (fun z i j b e e2 => ?_) (fun j b e => ?_) (fun i j b e1 e2 => ?_) (RepV.slots (fun y hy => by cases hy) h2), (by rintro y ⟨⟩; rfl), fun _ => rfl⟩
    · simp only [XE.blank, hget] at e
      split at e
      · simp [T.blocks] at e
      · exact e
    · simp only [XE.blank, hget] at e
      split at e
      · simp [T.blocks] at e
      · rename_i hne
        have hb : (σ.get y).blocks w (val ts y) j = some b := by rw [hσ]; exact e2
        exact hne (h.inv.inj y j z i b hb e).1
    · exact ⟨y, j, by rw [hσ]; exact e⟩
    · have hb1 : (σ.get y).blocks w (val ts y) i = some b := by rw [hσ]; exact e1
      have hb2 : (σ.get y).blocks w (val ts y) j = some b := by rw [hσ]; exact e2
      exact (h.inv.inj y i y j b hb1 hb2).2
  · cases hx

theorem xargs_sound {ds : List Deferred} {s0 : S} (h0 : Inv w0 ext I s0 ts w) (inv : Inv w0 ext I s ts w) (hn : s0.n = s.n) (hv0 : ∀ z, s0.isVar z = s.isVar z) (hg0 : ∀ l x A e, xarg s l x = some (A, e) → ∀ z ∈ e.slot, s0.get z = s.get z) :
    ∀ {ls : List Bool} {xs : List Operand} {as : List XA} {es : List XE}, xargs s ls xs = some (as, es) → distinct (es.flatMap XE.slot) = true →
    (∀ e ∈ es, e.Ok s) ∧ With w0 ext I (blanks es s0) ts w (valsF (xs.map (Act.eval ⟨ts, ds⟩))) (xF as) ∧ as.length = xs.length ∧ (∀ z k, bxAt es z = some k → valsF (xs.map (Act.eval ⟨ts, ds⟩)) k = val ts z) ∧ ∀ os : List (List Leaf), oF as os = eT es os
  | ls, [], as, es, h, hd => by
    simp only [xargs, Option.some.injEq, Prod.mk.injEq] at h
    obtain ⟨rfl, rfl⟩ := h
    exact ⟨by simp, With.nil h0, rfl, fun z k e => by simp [bxAt] at e, fun os => by cases os <;> rfl⟩
  | ls, x :: r, as, es, h, hd => by
    simp only [xargs] at h
    split at h <;> try cases h
    rename_i A e as es e1 e2
    obtain ⟨d1, d2⟩ := distinct_app hd
    obtain ⟨i1, i2, i3, i4, i5⟩ := xargs_sound (ds := ds) h0 inv hn hv0 hg0 e2 d2
    have vt0 : Vt s0 := fun x hx => (h0.vtgt x hx).1
    have i1' : ∀ e ∈ es, e.Ok s0 := fun e he => (i1 e he).iff hv0
    obtain ⟨j1, j2, j3, j4⟩ := xarg_sound (ds := ds) i2 inv e1 (fun z hz => (blanks_get vt0 i1' z (d1 z hz)).trans (hg0 _ x A e e1 z hz)) (fun z => ((blanks_same es s0).2 z).trans (hv0 z))
    refine ⟨fun e' he' => ?_, j2, by simp [i3], fun z k hk => ?_, fun os => ?_⟩
    · rcases List.mem_cons.1 he' with rfl | he'
      · exact j1
      · exact i1 e' he'
    · simp only [bxAt] at hk
      split at hk
      · rename_i hh
        cases hk
        exact j3 z hh
      · obtain ⟨k', h1, h2⟩ := Option.map_eq_some_iff.1 hk
        subst h2
        exact i4 z k' h1
    · simp only [oF, eT, j4, i5]

theorem bxAt_inj : ∀ {es : List XE}, ∀ z z' k, bxAt es z = some k → bxAt es z' = some k → z = z'
  | [], z, z', k, h, _ => by cases h
  | e :: r, z, z', k, h, h' => by
    simp only [bxAt] at h h'
    split at h
    · rename_i h1
      split at h'
      · rename_i h2
        rw [h1] at h2
        exact Option.some.inj h2
      · cases h
        obtain ⟨k2, b1, b2⟩ := Option.map_eq_some_iff.1 h'
        omega
    · split at h'
      · cases h'
        obtain ⟨k2, b1, b2⟩ := Option.map_eq_some_iff.1 h
        omega
      · obtain ⟨k1, a1, a2⟩ := Option.map_eq_some_iff.1 h
        obtain ⟨k2, b1, b2⟩ := Option.map_eq_some_iff.1 h'
        have : k1 = k2 := by omega
        subst this
        exact bxAt_inj z z' k1 a1 b1
theorem bxAt_var {s : S} : ∀ {es : List XE}, (∀ e ∈ es, e.Ok s) → ∀ z k, bxAt es z = some k → s.isVar z = true
  | [], _, z, k, h => by cases h
  | e :: r, ho, z, k, h => by
    simp only [bxAt] at h
    split at h
    · rename_i hh
      have he := ho e (by simp)
      cases e <;> simp only [XE.home, reduceCtorEq, Option.some.injEq] at hh <;> (subst hh; exact he)
    · obtain ⟨k1, a1, a2⟩ := Option.map_eq_some_iff.1 h
      exact bxAt_var (fun e he => ho e (by simp [he])) z k1 a1
theorem eT_target : ∀ (es : List XE) (os : List (List Leaf)) (k : Nat), (eT es os k).target = none
  | [], _, _ => rfl
  | e :: r, os, 0 => by cases e <;> rfl
  | e :: r, os, k + 1 => eT_target r os.tail k

/-- BEHIND THE CALL: the blocks that were handed over may have turned; the boxes and the result come back. -/
theorem With.back {x0 : Nat} (h : With w0 ext I s ts w vs tt) {xs : List XA} {os : List (List Leaf)} {v : Value} {cs : List Comp} (htt : tt = xF xs) (hnc : ∀ x y off, s.get x ≠ .cref y off)
    (hc : CameH w w' I vs xs os v cs) {s' : S} (g : Nat → Option Nat) (hn : s'.n = s.n) (hvar : ∀ x, s'.isVar x = s.isVar x) (hvt : Vt s')
    (hget : ∀ z, s'.get z = match g z with | some k => oF xs os k | none => s.get z) (hg : ∀ z k, g z = some k → vs k = val ts z ∧ s.isVar z = true ∧ (oF xs os k).target = none)
    (ginj : ∀ z z' k, g z = some k → g z' = some k → z = z') {d : Nat} (hd : d < s.n) :
    ∃ I2, (∀ b, I b → I2 b) ∧ (∀ b, I2 b → I b ∨ Mine w0 ext b) ∧ Inv w0 ext I2 (s'.put d (resT cs)) (ts.setIfInBounds d v) w' := by
  obtain ⟨hfr, I', c1, c2, c3⟩ := hc
  subst htt
  have hext : ∀ b, blocksOf w vs (xF xs) b → ¬ I b ∧ b < w.heap.size ∧ Mine w0 ext b := fun b ⟨x, i, e⟩ => h.hold.away x i b e
  have hw0 : w0.heap.size ≤ w.heap.size := h.inv.fr.size
  have hmine : ∀ b, Mine w (blocksOf w vs (xF xs)) b → Mine w0 ext b := fun b hb => hb.elim (fun h1 => .inl (Nat.le_trans hw0 h1)) (fun h1 => (hext b h1).2.2)
  -- nothing that is left has turned
  have hbk : ∀ x i b, (s.get x).blocks w (val ts x) i = some b → w'.heap[b]? = w.heap[b]? := fun x i b e => hfr.block b (h.inv.away x i b e).2.1 fun ⟨y, j, e2⟩ => h.sep x i y j b e e2
  have hbl : ∀ x i, (s.get x).blocks w' (val ts x) i = (s.get x).blocks w (val ts x) i := fun x i => T.blocks_world (fun b e => hbk x 0 b e) i
  have hIk : ∀ b, I b → w'.heap[b]? = w.heap[b]? := fun b hb => hfr.block b (h.inv.Ilt b hb) fun he => (hext b he).1 hb
  have hnI : ∀ x i b, (s.get x).blocks w (val ts x) i = some b → ¬ I' b := fun x i b e hb => by
    obtain ⟨a1, a2, a3⟩ := h.inv.away x i b e
    rcases (c2 b hb).2 with h1 | h1 | ⟨y, j, h1⟩
    · exact a1 h1
    · omega
    · exact h.sep x i y j b e h1
  -- what has come back lies apart from what is left
  have hapart : ∀ x i k j b, (s.get x).blocks w (val ts x) i = some b → (consF (resT cs) (oF xs os) k).blocks w' (consF v vs k) j = some b → False := fun x i k j b e1 e2 => by
    obtain ⟨_, _, a3⟩ := c3.away k j b e2
    have := (h.inv.away x i b e1).2.1
    rcases a3 with h1 | ⟨y, j', h1⟩
    · omega
    · exact h.sep x i y j' b e1 h1
  have gsome : ∀ z k, g z = some k → (s'.get z) = oF xs os k ∧ vs k = val ts z := fun z k e => ⟨by rw [hget, e], (hg z k e).1⟩
  have inv' : Inv w0 ext I' s' ts w' := by
    refine ⟨h.inv.size.trans hn.symm, fun x => ?_, fun x i y j b e1 e2 => ?_, fun x i b e => ?_, fun b hb => (c2 b hb).1, fun x y e => ?_, fun x hx => ⟨hvt x hx, ?_⟩, ?_⟩
    · show RepV w' I' (val ts) (val ts x) (s'.get x)
      cases e : g x with
      | some k =>
        obtain ⟨e1, e2⟩ := gsome x k e
        obtain ⟨_, _, hc⟩ := hg x k e
        have := c3.rep (k + 1)
        simp only [consF] at this
        rw [e1, ← e2]
        exact RepV.slots (fun y hy => by rw [hc] at hy; cases hy) this
      | none =>
        rw [hget, e]
        exact RepV.mono hIk c1 (fun i b e => hbk x i b e) (fun y off b e1 _ => absurd e1 (hnc x y off)) (h.inv.rep x)
    · cases ex : g x with
      | some k =>
        obtain ⟨f1, f2⟩ := gsome x k ex
        rw [f1, ← f2] at e1
        cases ey : g y with
        | some k' =>
          obtain ⟨f3, f4⟩ := gsome y k' ey
          rw [f3, ← f4] at e2
          obtain ⟨r1, r2⟩ := c3.inj (k + 1) i (k' + 1) j b e1 e2
          have : k = k' := by omega
          subst this
          exact ⟨ginj x y k ex ey, r2⟩
        | none =>
          rw [hget, ey] at e2
          simp only [hbl] at e2
          exact (hapart y j (k + 1) i b e2 e1).elim
      | none =>
        rw [hget, ex] at e1
        simp only [hbl] at e1
        cases ey : g y with
        | some k' =>
          obtain ⟨f3, f4⟩ := gsome y k' ey
          rw [f3, ← f4] at e2
          exact (hapart x i (k' + 1) j b e1 e2).elim
        | none =>
          rw [hget, ey] at e2
          simp only [hbl] at e2
          exact h.inv.inj x i y j b e1 e2
    · cases ex : g x with
      | some k =>
        obtain ⟨f1, f2⟩ := gsome x k ex
        rw [f1, ← f2] at e
        obtain ⟨a1, a2, a3⟩ := c3.away (k + 1) i b e
        exact ⟨a1, a2, hmine b a3⟩
      | none =>
        rw [hget, ex] at e
        simp only [hbl] at e
        obtain ⟨a1, a2, a3⟩ := h.inv.away x i b e
        exact ⟨hnI x i b e, Nat.lt_of_lt_of_le a2 hfr.size, a3⟩
    · rw [hvar]
      cases ex : g x with
      | some k =>
        obtain ⟨_, _, hc⟩ := hg x k ex
        rw [(gsome x k ex).1, hc] at e
        cases e
      | none => rw [hget, ex] at e; exact h.inv.tgt x y e
    · cases ex : g x with
      | some k =>
        obtain ⟨_, _, hc⟩ := hg x k ex
        rw [(gsome x k ex).1, hc]
      | none => rw [hget, ex]; exact (h.inv.vtgt x (by rw [← hvar]; exact hx)).2
    · exact h.inv.fr.trans (hfr.mono fun b hlt hb => (hext b hb).2.2.elim .inr .inl)
  refine ⟨I', c1, fun b hb => (c2 b hb).2.imp id (hmine b), ?_⟩
  refine inv'.put (by rw [hn]; exact hd) (RepV.slots (ρ := fun _ => undef) (fun y e => by rw [resT_target] at e; cases e) (c3.rep 0)) (fun i b e => ?_) (fun i j b e1 e2 => (c3.inj 0 i 0 j b e1 e2).2) (fun y e => by rw [resT_target] at e; cases e) (fun _ => resT_target cs)
  obtain ⟨a1, a2, a3⟩ := c3.away 0 i b e
  refine ⟨a1, a2, hmine b a3, fun y j _ e2 => ?_⟩
  cases ey : g y with
  | some k =>
    obtain ⟨f1, f2⟩ := gsome y k ey
    rw [f1, ← f2] at e2
    have := (c3.inj 0 i (k + 1) j b e e2).1
    omega
  | none =>
    rw [hget, ey] at e2
    simp only [hbl] at e2
    exact hapart y j 0 i b e2 e

theorem noC_keep {s : S} {z : Nat} (h : ∀ y off, s.get z ≠ .cref y off) : s.noC.get z = s.get z := by
  unfold S.get S.noC at *
  simp only [look_noC]
  cases hl : look s.ts z with
  | none => rfl
  | some t =>
    simp only [hl, Option.getD_some] at h
    cases t <;> first | rfl | exact absurd rfl (h _ _)
theorem xarg_keep (inv : Inv w0 ext I s ts w) {l : Bool} {x : Operand} {A : XA} {e : XE} (hx : xarg s l x = some (A, e)) : ∀ z ∈ e.slot, s.noC.get z = s.get z := by
  intro z hz
  refine noC_keep fun y off he => ?_
  unfold xarg at hx
  have et : (ev s x).t = opd s x := rfl
  rw [et] at hx
  have key : ∀ y', (opd s x).target = some y' → (ev s x).c = s.get y' := fun y' hy => (ev_c inv x (y := y') (by rw [et]; exact hy)).1
  split at hx
  · cases hx; simp [XE.slot] at hz
  · cases hx; simp [XE.slot] at hz
  · cases hx; simp [XE.slot] at hz
  · rename_i sz rows e1
    obtain ⟨t, rfl, hg, hv⟩ := opd_own e1
    cases hx
    simp only [XE.slot, List.mem_singleton] at hz
    subst hz
    rw [hg] at he; cases he
  · rename_i y' sz rows e1 e2
    split at hx <;>
    · cases hx
      simp only [XE.slot, List.mem_singleton] at hz
      subst hz
      rw [key z (by rw [e1]; rfl), he] at e2; cases e2
  · cases hx; simp [XE.slot] at hz
  · rename_i y' off' cells e1 e2
    split at hx
    · cases hx
      simp only [XE.slot, List.mem_singleton] at hz
      subst hz
      rw [key z (by rw [e1]; rfl), he] at e2; cases e2
    · cases hx
  · rename_i y' cells e1 e2
    cases hx
    simp only [XE.slot, List.mem_singleton] at hz
    subst hz
    rw [key z (by rw [e1]; rfl), he] at e2; cases e2
  · cases hx

theorem xargs_ln (inv : Inv w0 ext I s ts w) : ∀ {ls : List Bool} {xs : List Operand} {as : List XA} {es : List XE}, xargs s ls xs = some (as, es) → ∀ {y sz rows}, .ln y sz rows ∈ es → s.noC.get y = .own sz rows
  | ls, [], as, es, h, y, sz, rows, hm => by
    simp only [xargs, Option.some.injEq, Prod.mk.injEq] at h
    obtain ⟨rfl, rfl⟩ := h
    cases hm
  | ls, x :: r, as, es, h, y, sz, rows, hm => by
    simp only [xargs] at h
    split at h <;> try cases h
    rename_i A e as es e1 e2
    rcases List.mem_cons.1 hm with rfl | hm
    · rw [xarg_keep inv e1 y (by simp [XE.slot])]
      have et : (ev s x).t = opd s x := rfl
      unfold xarg at e1
      split at e1 <;> first
        | (cases e1; done)
        | (split at e1 <;> cases e1; done)
        | (rename_i y' sz' rows' f1 f2
           split at e1 <;> cases e1
           obtain ⟨h1, h2⟩ := ev_c inv x (y := y) (by rw [f1]; rfl)
           rw [f2] at h1
           exact h1.symm)
    · exact xargs_ln inv e2 hm

variable {P : Program} {o : Oper} {next : Act → World → Prop} {Q : Exit → Act → World → Prop}
/-- THE STEP OF SUCH A CALL. -/
theorem xCall_wp (inv : Inv w0 ext I s ts w) {ds : List Deferred} {c : Call} {f : Operand} {g : FuncId} {K : S → Prop} {d : Nat} (hop : o.op = .call c) (hc : c.callee = .value f) (hf : (ev s f).t = .one (.v (.func (.func g) #[] #[])))
    (h : xCall P g c.args.toList d s K) (hlt : d < s.n) (hd : o.dst = some d) (k : Next w0 ext I d ts ds K next) : o.wp P ⟨ts, ds⟩ w next Q := by
  obtain ⟨ls, xs, es, os, cs, hx, _, hdist, hspec, hK⟩ := h
  have inv1 := inv.noC
  have hnv : ∀ z, s.noC.isVar z = s.isVar z := fun _ => rfl
  obtain ⟨h1, h2, h3, h4, h5⟩ := xargs_sound (ds := ds) inv1 inv rfl hnv (fun l x A e hx => xarg_keep inv hx) hx hdist
  have vt : Vt s.noC := fun x hx => (inv1.vtgt x hx).1
  have h1' : ∀ e ∈ es, e.Ok s.noC := fun e he => (h1 e he).iff hnv
  refine call_wp hop hc (ev_v (ds := ds) inv hf) (hspec w I _ inv.Ilt (by rw [List.length_map, h3]) ⟨h2.hold.rep, h2.hold.inj, fun x i b e => ⟨(h2.hold.away x i b e).1, (h2.hold.away x i b e).2.1, .inr ⟨x, i, e⟩⟩⟩) (fun v w' hcame => ?_)
  have hnc : ∀ x y off, (blanks es s.noC).get x ≠ .cref y off := by
    intro x y off e
    have : ∀ {es : List XE}, (∀ e ∈ es, e.Ok s.noC) → (blanks es s.noC).get x = s.noC.get x ∨ (∀ y off, (blanks es s.noC).get x ≠ .cref y off) := by
      intro es
      induction es with
      | nil => intro _; exact .inl rfl
      | cons e r ih =>
        intro ho
        have hor : ∀ e ∈ r, e.Ok s.noC := fun e he => ho e (by simp [he])
        have ihr := ih hor
        have he := ho e (by simp)
        have t2 := blanks_vt vt hor
        have v2 := (blanks_same r s.noC).2
        have go : ∀ y t, s.noC.isVar y = true → (∀ y off, t ≠ T.cref y off) → ((blanks r s.noC).upd y t).get x = s.noC.get x ∨ (∀ y' off, ((blanks r s.noC).upd y t).get x ≠ .cref y' off) := fun y t hv ht => by
          rw [S.get_upd _ _ _ ((v2 y).trans hv) (t2 y ((v2 y).trans hv))]
          split
          · exact .inr ht
          · exact ihr
        cases e with
        | no => exact ihr
        | drop t =>
          simp only [blanks, XE.blank, drop_get]
          split
          · exact .inr (by intro _ _ e; cases e)
          · exact ihr
        | none y => exact go y _ he (by intro _ _ e; cases e)
        | hole y c => exact go y _ he (by intro _ _ e; cases e)
        | bx y => exact go y _ he (by intro _ _ e; cases e)
        | ln y _ _ => exact go y _ he (by intro _ _ e; cases e)
    rcases this h1' with e2 | e2
    · rw [e2] at e
      exact S.noC_cref s (fun x hx => (inv.vtgt x hx).2) x y off e
    · exact e2 y off e
  have hgg : ∀ z, (gives es os (takes es s.noC)).get z = match bxAt es z with | some k => oF xs os k | none => (blanks es s.noC).get z := fun z => by
    have hln : ∀ y sz rows, .ln y sz rows ∈ es → (takes es s.noC).get y = .own sz rows := fun y sz rows hm => by
      rw [takes_keep vt h1' fun e he hy => by rw [distinct_uniq hdist he hm hy (by simp [XE.slot])]; rfl]
      exact xargs_ln inv hx hm
    rw [gives_get (takes_vt vt h1') (takes_same es s.noC).2 h1' hdist hln z, h5]
    cases e : bxAt es z with
    | some k => rfl
    | none => exact takes_blanks vt h1' z e
  obtain ⟨I2, g1, g2, g3⟩ := With.back (x0 := 0) h2 rfl hnc hcame (s' := gives es os (takes es s.noC)) (bxAt es) (((gives_same es os _).1.trans (takes_same es _).1).trans (blanks_same es _).1.symm)
    (fun x => (((gives_same es os _).2 x).trans ((takes_same es _).2 x)).trans ((blanks_same es _).2 x).symm) (gives_vt (takes_vt vt h1')) hgg
    (fun z k e => ⟨h4 z k e, ((blanks_same es _).2 z).trans (bxAt_var h1' z k e), by rw [h5]; exact eT_target es os k⟩) bxAt_inj (d := d) (by rw [(blanks_same es s.noC).1]; exact hlt)
  rw [hd, Act.put_some]
  exact k I2 v w' _ hK g1 g2 g3
end
end Go.Ax
