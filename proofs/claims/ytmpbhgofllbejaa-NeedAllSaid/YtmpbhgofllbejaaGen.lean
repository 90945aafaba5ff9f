/- A walk that stops at each branch, and contracts whose lists are data: what printed walks lean on. -/
import Derived.Test.YtmpbhgofllbejaaLibE
set_option linter.unusedVariables false
set_option linter.unusedSimpArgs false
set_option linter.unusedVariables false
set_option linter.unusedSimpArgs false
namespace Go.Ax
open Go
/-- A branch whose two ways are not looked into. -/
def kIf (β : Bool) (A B : Prop) : Prop := (β = true → A) ∧ (β = false → B)
theorem kIf_of {β : Bool} {A B : Prop} (h1 : β = true → A) (h2 : β = false → B) : kIf β A B := ⟨h1, h2⟩
theorem kIf_true (A B : Prop) : kIf true A B = A := by simp [kIf]
theorem kIf_false (A B : Prop) : kIf false A B = B := by simp [kIf]
@[congr] theorem kIf_congr {β β' : Bool} {A B : Prop} (h : β = β') : kIf β A B = kIf β' A B := by rw [h]
theorem g_aOps (P : Program) (ops : Array Oper) (o : Oper) (r : List Oper) (s : S) (K : S → Prop) : aOps P ops (o :: r) s K = match o.guard with
    | none => aOp P o (preS P o s) (kOps P ops r K)
    | some (j, b) => match guardOf ops s j b with
      | some β => kIf (β == b) (aOp P o (preS P o (s.known ops j b)) (kOps P ops r K)) ((∀ d, o.dst = some d → d < s.n) ∧ aOps P ops r (skipS o (s.known ops j (!b))) K)
      | none => False := by
  rw [aOps_cons]
  rcases o.guard with _ | ⟨j, b⟩
  · rfl
  · simp only
    rcases guardOf ops s j b with _ | β
    · rfl
    · cases β <;> cases b <;> simp [kIf]
theorem g_aSeq (P : Program) (ops : Array Oper) (o : Oper) (r : List Oper) (tr : List Fp) (s : S) (K : S → Prop) : aSeq P ops (o :: r) tr s K = match o.guard with
    | none => live o s = true ∧ aOp P o s (kSeqD P ops r (fpOf P ops o s :: tr) K)
    | some (j, b) => match guardOf ops s j b with
      | some β => kIf (β == b) (live o (s.known ops j b) = true ∧ aOp P o (s.known ops j b) (kSeqD P ops r (fpOf P ops o (s.known ops j b) :: tr) K))
        ((∀ d, o.dst = some d → d < s.n) ∧ aSeq P ops r (fpSkip ops o :: tr) (skipS o (s.known ops j (!b))) K)
      | none => False := by
  rw [aSeq_cons]
  rcases o.guard with _ | ⟨j, b⟩
  · rfl
  · simp only
    rcases guardOf ops s j b with _ | β
    · rfl
    · cases β <;> cases b <;> simp [kIf]
theorem g_cond (aD : Program → Array Oper → S → (S → Prop) → Prop) (P : Program) (c : Operand) (x y : Code) (Kn : S → Prop) (E : Nat → S → Prop) (R : S → Prop) (s : S) : aCode aD P (.cond c x y) Kn E R s = match opd s c with
    | .one (.v (.bool β)) => kIf β (aCode aD P x Kn E R s.shut) (aCode aD P y Kn E R s.shut)
    | _ => False := by
  rw [aCode_cond]
  rcases opd s c with _ | ⟨_ | _⟩ <;> try rfl
theorem g_pick (P : Program) (c a b : Operand) (ev : Operand → R) (K : T → Prop) : qOp P (.pick c a b) ev K = match (ev c).t with
    | .one (.v (.bool β)) => kIf β (qMove (ev a) K) (qMove (ev b) K)
    | _ => False := by
  simp only [qOp]
  rcases (ev c).t with _ | ⟨_ | _⟩ <;> try rfl
theorem beq_tt (b : Bool) : (b == true) = b := by cases b <;> rfl
theorem beq_ff (b : Bool) : (b == false) = !b := by cases b <;> rfl
attribute [go_sem high] g_aOps g_aSeq g_cond g_pick
attribute [go_sem] kIf_true kIf_false beq_tt beq_ff decide_true decide_false

attribute [irreducible] kIf
-- a walk looks at the state alone, not at the code behind
section
variable {P : Program} {ops : Array Oper} {r : List Oper} {K Kn R : S → Prop} {E : Nat → S → Prop} {aD : Program → Array Oper → S → (S → Prop) → Prop} {s s' : S}
@[congr] theorem aSeq_cg {tr tr' : List Fp} (ht : tr = tr') (h : s = s') : aSeq P ops r tr s K = aSeq P ops r tr' s' K := by rw [ht, h]
@[congr] theorem aOps_cg (h : s = s') : aOps P ops r s K = aOps P ops r s' K := by rw [h]
@[congr] theorem aCode_cg {c : Code} (h : s = s') : aCode aD P c Kn E R s = aCode aD P c Kn E R s' := by rw [h]
@[congr] theorem kOps_cg (h : s = s') : kOps P ops r K s = kOps P ops r K s' := by rw [h]
@[congr] theorem kSeqD_cg {tr tr' : List Fp} (ht : tr = tr') (h : s = s') : kSeqD P ops r tr K s = kSeqD P ops r tr' K s' := by rw [ht, h]
@[congr] theorem kSeq_cg {y : Code} (h : s = s') : kSeq aD P y Kn E R s = kSeq aD P y Kn E R s' := by rw [h]
@[congr] theorem kLoop_cg {b : Code} (h : s = s') : kLoop aD P b E R K s = kLoop aD P b E R K s' := by rw [h]
@[congr] theorem aOp_cg {o : Oper} (h : s = s') : aOp P o s K = aOp P o s' K := by rw [h]
end

/-! ### Lists of data -/
def rowsD {α : Type} (f : α → List D) (l : List α) : List (List D) := l.map f
section
variable {α : Type} (f : α → List D)
theorem length_rowsD (l : List α) : (rowsD f l).length = l.length := by simp [rowsD]
theorem rowsD_nil : rowsD f [] = [] := rfl
theorem rowsD_cons (x : α) (l : List α) : rowsD f (x :: l) = f x :: rowsD f l := rfl
theorem rowsD_append (l m : List α) : rowsD f (l ++ m) = rowsD f l ++ rowsD f m := by simp [rowsD]
theorem rowsD_set (l : List α) (i : Nat) (x : α) : rowsD f (l.set i x) = (rowsD f l).set i (f x) := by simp [rowsD, List.map_set]
theorem rowsD_take (l : List α) (n : Nat) : rowsD f (l.take n) = (rowsD f l).take n := by simp [rowsD]
theorem rowsD_drop (l : List α) (n : Nat) : rowsD f (l.drop n) = (rowsD f l).drop n := by simp [rowsD]
theorem rowsD_replicate (n : Nat) (x : α) : rowsD f (List.replicate n x) = List.replicate n (f x) := by simp [rowsD]
theorem rowsD_len {n : Nat} (h : ∀ x, (f x).length = n) (l : List α) : (∀ r ∈ rowsD f l, r.length = n) = True := by
  simp only [rowsD, List.mem_map, forall_exists_index, and_imp, forall_apply_eq_imp_iff₂, eq_iff_iff, iff_true]
  exact fun x _ => h x
end
def rd {α : Type} [Inhabited α] (l : List α) (i : Int) : α := l[i.toNat]?.getD default
theorem getD_rowsD {α : Type} [Inhabited α] (f : α → List D) (l : List α) (i : Int) : (rowsD f l).getD i.toNat (f default) = f (rd l i) := by
  rw [List.getD_eq_getElem?_getD]
  simp only [rowsD, List.getElem?_map, rd]
  cases l[i.toNat]? <;> rfl
attribute [go_sem] length_rowsD rowsD_nil
/-- An element of an array, by its place. -/
theorem arr_get {α β : Type} [Inhabited α] (f : α → β) (l : List α) {i : Int} (h0 : 0 ≤ i) (h : i < l.length) : (l.map f)[i.toNat]? = some (f (rd l i)) := by
  have hi : i.toNat < l.length := by omega
  simp [rd, hi]
def i64D (x : Int) : List D := [.v (.int .i64 x)]
def boolD (x : Bool) : List D := [.v (.bool x)]
def u64D (x : Int) : List D := [.v (.int .u64 x)]
def u8D (x : Int) : List D := [.v (.int .u8 x)]

/-! ### Flows of loops -/
inductive Flow (σ ρ : Type) where
  | out (s : σ)
  | ret (r : ρ)
def Flow.go {σ ρ : Type} (f : Flow σ ρ) (k : σ → Option ρ) : Option ρ :=
  match f with
  | .out s => k s
  | .ret r => some r
theorem Flow.go_out {σ ρ : Type} (s : σ) (k : σ → Option ρ) : (Flow.out s : Flow σ ρ).go k = k s := rfl
theorem Flow.go_ret {σ ρ : Type} (r : ρ) (k : σ → Option ρ) : (Flow.ret r : Flow σ ρ).go k = some r := rfl
def Flow.goL {σ τ ρ : Type} (f : Flow σ ρ) (k : σ → Option (Flow τ ρ)) : Option (Flow τ ρ) :=
  match f with
  | .out s => k s
  | .ret r => some (.ret r)
theorem Flow.goL_out {σ τ ρ : Type} (s : σ) (k : σ → Option (Flow τ ρ)) : (Flow.out s : Flow σ ρ).goL k = k s := rfl
theorem Flow.goL_ret {σ τ ρ : Type} (r : ρ) (k : σ → Option (Flow τ ρ)) : (Flow.ret r : Flow σ ρ).goL k = some (.ret r) := rfl
def FUEL : Nat := 1000000000000000000
theorem ifp {α : Type} {c : Prop} [Decidable c] {x y : Option α} {r : α} (h : (if c then x else y) = some r) (hc : c) : x = some r := by rwa [if_pos hc] at h
theorem ifn {α : Type} {c : Prop} [Decidable c] {x y : Option α} {r : α} (h : (if c then x else y) = some r) (hc : ¬c) : y = some r := by rwa [if_neg hc] at h
theorem gd {α : Type} {c : Prop} [Decidable c] {x : Option α} {r : α} (h : (if c then x else none) = some r) : c ∧ x = some r := by
  by_cases hc : c
  · rw [if_pos hc] at h; exact ⟨hc, h⟩
  · rw [if_neg hc] at h; cases h
theorem bd {α β : Type} {x : Option α} {f : α → Option β} {r : β} (h : x.bind f = some r) : ∃ y, x = some y ∧ f y = some r := Option.bind_eq_some_iff.1 h

/-! ### Results as data -/
def Comp.data : Comp → Comp
  | .one (.own _ rows) => .one (.d (.l rows))
  | c => c
def RetD (P : Program) (rs : List ResultVar) (cs : List Comp) (s : S) : Prop :=
  match retCs P s rs with
  | some cs' => cs'.map Comp.data = cs
  | none => False
theorem RepC.data {w : World} {I I' : Nat → Prop} {v : Value} {c : Comp} (hI : ∀ b, I b → I' b) (ho : ∀ sz rows, c = .one (.own sz rows) → ∀ b, v.ownBlock = some b → I' b) (h : RepC w I v c) : RepC w I' v c.data := by
  cases c with
  | agg ds => obtain ⟨cs, e, h⟩ := h; exact ⟨cs, e, h.mono (fun _ _ => rfl) hI⟩
  | one lf => cases lf with
    | d x => exact RepD.mono (fun _ _ => rfl) hI h
    | own sz rows => exact OwnL.data h hI (ho sz rows rfl)
    | hole => exact h
theorem resT_two (c c2 : Comp) (r : List Comp) : resT (c :: c2 :: r) = .tup (c :: c2 :: r) := by
  unfold resT
  split
  · rename_i e; cases e
  · rename_i e; cases e
  · rename_i e; cases e
  · rfl
theorem resT_none {w : World} {v : Value} {cs : List Comp} (h : ∀ (j : Nat) sz rows, cs[j]? ≠ some (.one (.own sz rows))) (i : Nat) : (resT cs).blocks w v i = none := by
  unfold resT
  split
  · rfl
  · exact absurd rfl (h 0 _ _)
  · rfl
  · unfold T.blocks
    dsimp only
    split
    · exact absurd (by assumption) (h i _ _)
    · rfl
theorem data_no (cs : List Comp) (j sz : Nat) (rows : List (List D)) : (cs.map Comp.data)[j]? ≠ some (.one (.own sz rows)) := by
  intro e
  rw [List.getElem?_map] at e
  cases hj : cs[j]? with
  | none => rw [hj] at e; cases e
  | some c0 =>
    rw [hj] at e
    simp only [Option.map_some, Option.some.injEq] at e
    cases c0 with
    | agg ds => simp [Comp.data] at e
    | one lf => cases lf <;> simp [Comp.data] at e
theorem Came.data {w w' : World} {I : Nat → Prop} {v : Value} {cs : List Comp} (h : Came w w' I v cs) : Came w w' I v (cs.map Comp.data) := by
  obtain ⟨hfr, I', h1, h2, h3, h4, h5⟩ := h
  refine ⟨hfr, fun b => I' b ∨ ∃ i, (resT cs).blocks w' v i = some b, fun b hb => .inl (h1 b hb), fun b hb => ?_, ?_, fun i b hb => ?_, fun i j b hb _ => ?_⟩
  · rcases hb with hb | ⟨i, hb⟩
    · exact h2 b hb
    · exact ⟨(h4 i b hb).2.2, .inr (h4 i b hb).2.1⟩
  · have key : ∀ c, cs = [c] → RepV w' (fun b => I' b ∨ ∃ i, (resT cs).blocks w' v i = some b) (fun _ => undef) v (resT [c.data]) := by
      intro c e
      subst e
      cases c with
      | agg ds => obtain ⟨cs', e, h⟩ := h3; exact ⟨cs', e, h.mono (fun _ _ => rfl) (fun _ e => .inl e)⟩
      | one lf => cases lf with
        | d x => exact RepD.mono (fun _ _ => rfl) (fun _ e => .inl e) h3
        | own sz rows => exact OwnL.data h3 (fun _ e => .inl e) (fun b hb => .inr ⟨0, by simp [resT, T.blocks, hb]⟩)
        | hole =>
          obtain ⟨vs, a1, a2, a3⟩ := h3
          refine ⟨vs, a1, a2, fun j c hc => ?_⟩
          cases j with
          | zero => simp [Comp.data] at hc; subst hc; trivial
          | succ j => simp [Comp.data] at hc
    rcases cs with _ | ⟨c, _ | ⟨c2, r⟩⟩
    · obtain ⟨vs, a1, a2, a3⟩ := h3
      exact ⟨vs, a1, a2, fun j c hc => by simp at hc⟩
    · exact key c rfl
    · have e1 := resT_two c c2 r
      have e2 : resT ((c :: c2 :: r).map Comp.data) = .tup ((c :: c2 :: r).map Comp.data) := resT_two c.data c2.data (r.map Comp.data)
      rw [e1] at h3 h4 ⊢
      rw [e2]
      obtain ⟨vs, a1, a2, a3⟩ := h3
      refine ⟨vs, a1, by simpa using a2, fun j c' hc => ?_⟩
      rw [List.getElem?_map] at hc
      cases hj : (c :: c2 :: r)[j]? with
      | none => rw [hj] at hc; cases hc
      | some c0 =>
        rw [hj] at hc
        simp only [Option.map_some, Option.some.injEq] at hc
        subst hc
        refine RepC.data (fun _ e => .inl e) (fun sz rows e b hb => .inr ⟨j, ?_⟩) (a3 j c0 hj)
        subst e
        simp only [T.blocks, hj, a1]
        exact hb
  · rw [resT_none (data_no cs)] at hb; cases hb
  · rw [resT_none (data_no cs)] at hb; cases hb
theorem FSpec.data {P : Program} {f : FuncId} {as : List Arg} {cs : List Comp} (h : FSpec P f as cs) : FSpec P f as (cs.map Comp.data) := by
  intro w I vals hI hrep
  rcases h w I vals hI hrep with ⟨h1, h2⟩ | ⟨v, w', h1, h2⟩
  · exact .inl ⟨h1, h2.mono fun e w' ⟨v, he, hc⟩ => ⟨v, he, hc.data⟩⟩
  · exact .inr ⟨v, w', h1, h2.data⟩
theorem fspec_data {P : Program} (hmix : P.follows .mixedOrders = true) {f : FuncId} {fn : Func} {body : Code} (hf : P.funcs[f]? = some fn) (hb : fn.body = some body) (hname : (fn.name == "runtime.NumGoroutine") = false) (vars : List Nat) {rs : List ResultVar} (hrs : fn.results.toList = rs) (hnd : (rs.map rslot).Nodup) {n : Nat} (hn : fn.ntmps = n) {as : List Arg} {cs : List Comp}
    (hargs : as.length ≤ n) (h : aCode aDraw P body (RetD P rs cs) (fun _ _ => False) (RetD P rs cs) (start n vars as)) : FSpec P f as cs := by
  refine fspec_ofR aDraw (aDraw_ok hmix) hf hb hname vars hrs hnd hn hargs (fun s hR => ?_) h
  unfold RetD at hR
  split at hR
  · rename_i cs' e
    exact ⟨cs', e, fun w w' I v hc => hR ▸ hc.data⟩
  · exact hR.elim
attribute [go_sem] RetD Comp.data
end Go.Ax
