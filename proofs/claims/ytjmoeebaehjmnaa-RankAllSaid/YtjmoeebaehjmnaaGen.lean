/- A walk that stops at each branch, and contracts whose lists are data: what printed walks lean on. -/
import Derived.Test.YtjmoeebaehjmnaaLibE
set_option linter.unusedVariables false
set_option linter.unusedSimpArgs false
set_option linter.unusedVariables false
set_option linter.unusedSimpArgs false
namespace Go.Ax
open Go
/-- A branch whose two ways are not looked into. -/
def kIf (β : Bool) (A B : Prop) : Prop := (β = true → A) ∧ (β = false → B)
theorem kIf_of {β : Bool} {A B : Prop} (h1 : β = true → A) (h2 : β = false → B) : kIf β A B := ⟨h1, h2⟩
theorem kIf_true (A B : Prop) : kIf true A B = A := by simp [kIf]
theorem kIf_false (A B : Prop) : kIf false A B = B := by simp [kIf]
@[congr] theorem kIf_congr {β β' : Bool} {A B : Prop} (h : β = β') : kIf β A B = kIf β' A B := by rw [h]
theorem g_aOps (P : Program) (ops : Array Oper) (o : Oper) (r : List Oper) (s : S) (K : S → Prop) : aOps P ops (o :: r) s K = match o.guard with
    | none => match nilTest o with
      | some (d, t, x) => nilOp P d t x s (kOps P ops r K)
      | none => aOp P o (preS P o s) (kOps P ops r K)
    | some (j, b) => match guardOf ops s j b with
      | some β => kIf (β == b) (aOp P o (preS P o (s.known ops j b)) (kOps P ops r K)) ((∀ d, o.dst = some d → d < s.n) ∧ aOps P ops r (skipS o (s.known ops j (!b))) K)
      | none => False := by
  rw [aOps_cons]
  rcases o.guard with _ | ⟨j, b⟩
  · rfl
  · simp only
    rcases guardOf ops s j b with _ | β
    · rfl
    · cases β <;> cases b <;> simp [kIf]
theorem g_aSeq (P : Program) (ops : Array Oper) (o : Oper) (r : List Oper) (tr : List Fp) (s : S) (K : S → Prop) : aSeq P ops (o :: r) tr s K = match o.guard with
    | none => live o s = true ∧ aOp P o s (kSeqD P ops r (fpOf P ops o s :: tr) K)
    | some (j, b) => match guardOf ops s j b with
      | some β => kIf (β == b) (live o (s.known ops j b) = true ∧ aOp P o (s.known ops j b) (kSeqD P ops r (fpOf P ops o (s.known ops j b) :: tr) K))
        ((∀ d, o.dst = some d → d < s.n) ∧ aSeq P ops r (fpSkip ops s.n o :: tr) (skipS o (s.known ops j (!b))) K)
      | none => False := by
  rw [aSeq_cons]
  rcases o.guard with _ | ⟨j, b⟩
  · rfl
  · simp only
    rcases guardOf ops s j b with _ | β
    · rfl
    · cases β <;> cases b <;> simp [kIf]
theorem g_cond (aD : Program → Array Oper → S → (S → Prop) → Prop) (P : Program) (c : Operand) (x y : Code) (Kn : S → Prop) (E : Nat → S → Prop) (R : S → Prop) (s : S) : aCode aD P (.cond c x y) Kn E R s = match opd s c with
    | .one (.v (.bool β)) => kIf β (aCode aD P x Kn E R s.shut) (aCode aD P y Kn E R s.shut)
    | _ => False := by
  rw [aCode_cond]
  rcases opd s c with _ | ⟨_ | _⟩ <;> try rfl
theorem g_pick (P : Program) (c a b : Operand) (ev : Operand → R) (K : T → Prop) : qOp P (.pick c a b) ev K = match (ev c).t with
    | .one (.v (.bool β)) => kIf β (qMove (ev a) K) (qMove (ev b) K)
    | _ => False := by
  simp only [qOp]
  rcases (ev c).t with _ | ⟨_ | _⟩ <;> try rfl
theorem beq_tt (b : Bool) : (b == true) = b := by cases b <;> rfl
theorem beq_ff (b : Bool) : (b == false) = !b := by cases b <;> rfl
attribute [go_sem high] g_aOps g_aSeq g_cond g_pick
attribute [go_sem] kIf_true kIf_false beq_tt beq_ff decide_true decide_false

attribute [irreducible] kIf
/-- Either way, where a list is empty: both come to the same. -/
def nilT {α : Type} [DecidableEq α] (c : Prop) [Decidable c] (x y : Option α) : Option α := if c then (if x = y then y else none) else y
theorem nilT_f {α : Type} [DecidableEq α] {c : Prop} [Decidable c] {x y : Option α} {r : α} (h : nilT c x y = some r) : y = some r := by
  unfold nilT at h
  split at h
  · split at h
    · exact h
    · cases h
  · exact h
theorem nilT_t {α : Type} [DecidableEq α] {c : Prop} [Decidable c] {x y : Option α} {r : α} (h : nilT c x y = some r) (hc : c) : x = some r := by
  unfold nilT at h
  rw [if_pos hc] at h
  split at h
  · rename_i e; rw [e]; exact h
  · cases h
theorem kNil_of {s : S} {d : Nat} {rows : List (List D)} {K : S → Prop} (h1 : K (s.put d (.one (.v (.bool false))))) (h2 : rows = [] → K (s.put d (.one (.v (.bool true))))) : kNil s d rows K := ⟨h1, h2⟩
@[congr] theorem kNil_cg {s s' : S} {d : Nat} {rows rows' : List (List D)} {K : S → Prop} (h : s = s') (hr : rows = rows') : kNil s d rows K = kNil s' d rows' K := by rw [h, hr]
-- a walk looks at the state alone, not at the code behind
section
variable {P : Program} {ops : Array Oper} {r : List Oper} {K Kn R : S → Prop} {E : Nat → S → Prop} {aD : Program → Array Oper → S → (S → Prop) → Prop} {s s' : S}
@[congr] theorem aSeq_cg {tr tr' : List Fp} (ht : tr = tr') (h : s = s') : aSeq P ops r tr s K = aSeq P ops r tr' s' K := by rw [ht, h]
@[congr] theorem aOps_cg (h : s = s') : aOps P ops r s K = aOps P ops r s' K := by rw [h]
@[congr] theorem aCode_cg {c : Code} (h : s = s') : aCode aD P c Kn E R s = aCode aD P c Kn E R s' := by rw [h]
@[congr] theorem kOps_cg (h : s = s') : kOps P ops r K s = kOps P ops r K s' := by rw [h]
@[congr] theorem kSeqD_cg {tr tr' : List Fp} (ht : tr = tr') (h : s = s') : kSeqD P ops r tr K s = kSeqD P ops r tr' K s' := by rw [ht, h]
@[congr] theorem kSeq_cg {y : Code} (h : s = s') : kSeq aD P y Kn E R s = kSeq aD P y Kn E R s' := by rw [h]
@[congr] theorem kLoop_cg {b : Code} (h : s = s') : kLoop aD P b E R K s = kLoop aD P b E R K s' := by rw [h]
@[congr] theorem aOp_cg {o : Oper} (h : s = s') : aOp P o s K = aOp P o s' K := by rw [h]
end

/-! ### Lists of data -/
def rowsD {α : Type} (f : α → List D) (l : List α) : List (List D) := l.map f
section
variable {α : Type} (f : α → List D)
theorem length_rowsD (l : List α) : (rowsD f l).length = l.length := by simp [rowsD]
theorem rowsD_eq_nil {l : List α} (h : rowsD f l = []) : l = [] := by simpa [rowsD] using h
theorem rowsD_nil : rowsD f [] = [] := rfl
theorem rowsD_cons (x : α) (l : List α) : rowsD f (x :: l) = f x :: rowsD f l := rfl
theorem rowsD_append (l m : List α) : rowsD f (l ++ m) = rowsD f l ++ rowsD f m := by simp [rowsD]
theorem rowsD_set (l : List α) (i : Nat) (x : α) : rowsD f (l.set i x) = (rowsD f l).set i (f x) := by simp [rowsD, List.map_set]
theorem rowsD_take (l : List α) (n : Nat) : rowsD f (l.take n) = (rowsD f l).take n := by simp [rowsD]
theorem rowsD_drop (l : List α) (n : Nat) : rowsD f (l.drop n) = (rowsD f l).drop n := by simp [rowsD]
theorem rowsD_replicate (n : Nat) (x : α) : rowsD f (List.replicate n x) = List.replicate n (f x) := by simp [rowsD]
theorem rowsD_len {n : Nat} (h : ∀ x, (f x).length = n) (l : List α) : (∀ r ∈ rowsD f l, r.length = n) = True := by
  simp only [rowsD, List.mem_map, forall_exists_index, and_imp, forall_apply_eq_imp_iff₂, eq_iff_iff, iff_true]
  exact fun x _ => h x
end
def rd {α : Type} [Inhabited α] (l : List α) (i : Int) : α := l[i.toNat]?.getD default
theorem getD_rowsD {α : Type} [Inhabited α] (f : α → List D) (l : List α) (i : Int) : (rowsD f l).getD i.toNat (f default) = f (rd l i) := by
  rw [List.getD_eq_getElem?_getD]
  simp only [rowsD, List.getElem?_map, rd]
  cases l[i.toNat]? <;> rfl
attribute [go_sem] length_rowsD rowsD_nil
/-- An element of an array, by its place. -/
theorem arr_get {α β : Type} [Inhabited α] (f : α → β) (l : List α) {i : Int} (h0 : 0 ≤ i) (h : i < l.length) : (l.map f)[i.toNat]? = some (f (rd l i)) := by
  have hi : i.toNat < l.length := by omega
  simp [rd, hi]
theorem arr_put {α β : Type} [Inhabited α] (f : α → β) (l : List α) {i : Int} (z : β) (h0 : 0 ≤ i) (h : i < l.length) : (l.map f).take i.toNat ++ z :: (l.map f).drop (i.toNat + 1) = (l.map f).set i.toNat z := by
  rw [List.set_eq_take_append_cons_drop, if_pos (by simp; omega)]
theorem rd_in {α : Type} [Inhabited α] (f : α → List D) (l : List α) {i : Int} (z : List D) (h0 : 0 ≤ i) (h1 : i < (l.length : Int)) : (rowsD f l).getD i.toNat z = f (rd l i) := by
  have h : i.toNat < (rowsD f l).length := by rw [length_rowsD]; omega
  rw [← getD_rowsD f l i]; simp [List.getD_eq_getElem?_getD, List.getElem?_eq_getElem h]
theorem arr_put2 {α β : Type} [Inhabited α] (f : α → β) (l : List α) {i : Int} (z : β) (h0 : 0 ≤ i) (h : i < l.length) : (l.map f).take i.toNat ++ [z] ++ (l.map f).drop (i.toNat + 1) = (l.map f).set i.toNat z := by
  rw [List.append_assoc]; exact arr_put f l z h0 h
/-- A load of a whole array. -/
theorem arr_frz {α : Type} (sz : Nat) (f : α → List (List D)) (l : List α) {n : Nat} (h : l.length = n) : frzLs 0 n (l.map fun x => Leaf.own sz (f x)) = l.map fun x => Leaf.d (D.l (f x)) := by
  induction l generalizing n with
  | nil => rfl
  | cons a l ih =>
    simp only [List.length_cons] at h
    subst h
    simp only [List.map_cons, frzLs, if_true, Nat.add_sub_cancel]
    exact congrArg _ (ih rfl)
theorem arr_frzd {α : Type} (f : α → D) (l : List α) (off n : Nat) : frzLs off n (l.map fun x => Leaf.d (f x)) = l.map fun x => Leaf.d (f x) := by
  induction l generalizing off n with
  | nil => rfl
  | cons a l ih =>
    simp only [List.map_cons, frzLs, ih]
    congr 1
    split <;> rfl
theorem arr_leaf {α : Type} (f : α → D) (l : List α) {n : Nat} (h : l.length = n) : leafD ((l.map fun x => Leaf.d (f x)).take n) = some (l.map f) := by
  rw [List.take_of_length_le (by simp; omega)]
  clear h
  induction l with
  | nil => rfl
  | cons a l ih => simp only [List.map_cons, leafD, ih, Option.map_some]
theorem arr_take {α : Type} (f : α → D) (l : List α) {n : Nat} (h : l.length = n) : (l.map f).take n = l.map f := List.take_of_length_le (by simp; omega)
def i64D (x : Int) : List D := [.v (.int .i64 x)]
def boolD (x : Bool) : List D := [.v (.bool x)]
def u64D (x : Int) : List D := [.v (.int .u64 x)]
def u8D (x : Int) : List D := [.v (.int .u8 x)]

/-! ### Flows of loops -/
inductive Flow (σ ρ : Type) where
  | out (s : σ)
  | ret (r : ρ)
def Flow.go {σ ρ : Type} (f : Flow σ ρ) (k : σ → Option ρ) : Option ρ :=
  match f with
  | .out s => k s
  | .ret r => some r
theorem Flow.go_out {σ ρ : Type} (s : σ) (k : σ → Option ρ) : (Flow.out s : Flow σ ρ).go k = k s := rfl
theorem Flow.go_ret {σ ρ : Type} (r : ρ) (k : σ → Option ρ) : (Flow.ret r : Flow σ ρ).go k = some r := rfl
def Flow.goL {σ τ ρ : Type} (f : Flow σ ρ) (k : σ → Option (Flow τ ρ)) : Option (Flow τ ρ) :=
  match f with
  | .out s => k s
  | .ret r => some (.ret r)
theorem Flow.goL_out {σ τ ρ : Type} (s : σ) (k : σ → Option (Flow τ ρ)) : (Flow.out s : Flow σ ρ).goL k = k s := rfl
theorem Flow.goL_ret {σ τ ρ : Type} (r : ρ) (k : σ → Option (Flow τ ρ)) : (Flow.ret r : Flow σ ρ).goL k = some (.ret r) := rfl
def FUEL : Nat := 1000000000000000000
theorem ifp {α : Type} {c : Prop} [Decidable c] {x y : Option α} {r : α} (h : (if c then x else y) = some r) (hc : c) : x = some r := by rwa [if_pos hc] at h
theorem ifn {α : Type} {c : Prop} [Decidable c] {x y : Option α} {r : α} (h : (if c then x else y) = some r) (hc : ¬c) : y = some r := by rwa [if_neg hc] at h
theorem gd {α : Type} {c : Prop} [Decidable c] {x : Option α} {r : α} (h : (if c then x else none) = some r) : c ∧ x = some r := by
  by_cases hc : c
  · rw [if_pos hc] at h; exact ⟨hc, h⟩
  · rw [if_neg hc] at h; cases h
theorem bd {α β : Type} {x : Option α} {f : α → Option β} {r : β} (h : x.bind f = some r) : ∃ y, x = some y ∧ f y = some r := Option.bind_eq_some_iff.1 h

/-! ### Results as data -/
def Comp.data : Comp → Comp
  | .one (.own _ rows) => .one (.d (.l rows))
  | c => c
def RetD (P : Program) (rs : List ResultVar) (cs : List Comp) (s : S) : Prop :=
  match retCs P s rs with
  | some cs' => cs'.map Comp.data = cs
  | none => False
theorem RepC.data {w : World} {I I' : Nat → Prop} {v : Value} {c : Comp} (hI : ∀ b, I b → I' b) (ho : ∀ sz rows, c = .one (.own sz rows) → ∀ b, v.ownBlock = some b → I' b) (h : RepC w I v c) : RepC w I' v c.data := by
  cases c with
  | agg ds => obtain ⟨cs, e, h⟩ := h; exact ⟨cs, e, h.mono (fun _ _ => rfl) hI⟩
  | one lf => cases lf with
    | d x => exact RepD.mono (fun _ _ => rfl) hI h
    | own sz rows => exact OwnL.data h hI (ho sz rows rfl)
    | hole => exact h
theorem resT_two (c c2 : Comp) (r : List Comp) : resT (c :: c2 :: r) = .tup (c :: c2 :: r) := by
  unfold resT
  split
  · rename_i e; cases e
  · rename_i e; cases e
  · rename_i e; cases e
  · rfl
theorem resT_none {w : World} {v : Value} {cs : List Comp} (h : ∀ (j : Nat) sz rows, cs[j]? ≠ some (.one (.own sz rows))) (i : Nat) : (resT cs).blocks w v i = none := by
  unfold resT
  split
  · rfl
  · exact absurd rfl (h 0 _ _)
  · rfl
  · unfold T.blocks
    dsimp only
    split
    · exact absurd (by assumption) (h i _ _)
    · rfl
theorem data_no (cs : List Comp) (j sz : Nat) (rows : List (List D)) : (cs.map Comp.data)[j]? ≠ some (.one (.own sz rows)) := by
  intro e
  rw [List.getElem?_map] at e
  cases hj : cs[j]? with
  | none => rw [hj] at e; cases e
  | some c0 =>
    rw [hj] at e
    simp only [Option.map_some, Option.some.injEq] at e
    cases c0 with
    | agg ds => simp [Comp.data] at e
    | one lf => cases lf <;> simp [Comp.data] at e
theorem Came.data {w w' : World} {I : Nat → Prop} {v : Value} {cs : List Comp} (h : Came w w' I v cs) : Came w w' I v (cs.map Comp.data) := by
  obtain ⟨hfr, I', h1, h2, h3, h4, h5⟩ := h
  refine ⟨hfr, fun b => I' b ∨ ∃ i, (resT cs).blocks w' v i = some b, fun b hb => .inl (h1 b hb), fun b hb => ?_, ?_, fun i b hb => ?_, fun i j b hb _ => ?_⟩
  · rcases hb with hb | ⟨i, hb⟩
    · exact h2 b hb
    · exact ⟨(h4 i b hb).2.2, .inr (h4 i b hb).2.1⟩
  · have key : ∀ c, cs = [c] → RepV w' (fun b => I' b ∨ ∃ i, (resT cs).blocks w' v i = some b) (fun _ => undef) v (resT [c.data]) := by
      intro c e
      subst e
      cases c with
      | agg ds => obtain ⟨cs', e, h⟩ := h3; exact ⟨cs', e, h.mono (fun _ _ => rfl) (fun _ e => .inl e)⟩
      | one lf => cases lf with
        | d x => exact RepD.mono (fun _ _ => rfl) (fun _ e => .inl e) h3
        | own sz rows => exact OwnL.data h3 (fun _ e => .inl e) (fun b hb => .inr ⟨0, by simp [resT, T.blocks, hb]⟩)
        | hole =>
          obtain ⟨vs, a1, a2, a3⟩ := h3
          refine ⟨vs, a1, a2, fun j c hc => ?_⟩
          cases j with
          | zero => simp [Comp.data] at hc; subst hc; trivial
          | succ j => simp [Comp.data] at hc
    rcases cs with _ | ⟨c, _ | ⟨c2, r⟩⟩
    · obtain ⟨vs, a1, a2, a3⟩ := h3
      exact ⟨vs, a1, a2, fun j c hc => by simp at hc⟩
    · exact key c rfl
    · have e1 := resT_two c c2 r
      have e2 : resT ((c :: c2 :: r).map Comp.data) = .tup ((c :: c2 :: r).map Comp.data) := resT_two c.data c2.data (r.map Comp.data)
      rw [e1] at h3 h4 ⊢
      rw [e2]
      obtain ⟨vs, a1, a2, a3⟩ := h3
      refine ⟨vs, a1, by simpa using a2, fun j c' hc => ?_⟩
      rw [List.getElem?_map] at hc
      cases hj : (c :: c2 :: r)[j]? with
      | none => rw [hj] at hc; cases hc
      | some c0 =>
        rw [hj] at hc
        simp only [Option.map_some, Option.some.injEq] at hc
        subst hc
        refine RepC.data (fun _ e => .inl e) (fun sz rows e b hb => .inr ⟨j, ?_⟩) (a3 j c0 hj)
        subst e
        simp only [T.blocks, hj, a1]
        exact hb
  · rw [resT_none (data_no cs)] at hb; cases hb
  · rw [resT_none (data_no cs)] at hb; cases hb
theorem FSpec.data {P : Program} {f : FuncId} {as : List Arg} {cs : List Comp} (h : FSpec P f as cs) : FSpec P f as (cs.map Comp.data) := by
  intro w I vals hI hrep
  rcases h w I vals hI hrep with ⟨h1, h2⟩ | ⟨v, w', h1, h2⟩
  · exact .inl ⟨h1, h2.mono fun e w' ⟨v, he, hc⟩ => ⟨v, he, hc.data⟩⟩
  · exact .inr ⟨v, w', h1, h2.data⟩
theorem fspec_data {P : Program} (hmix : P.follows .mixedOrders = true) {f : FuncId} {fn : Func} {body : Code} (hf : P.funcs[f]? = some fn) (hb : fn.body = some body) (hname : (fn.name == "runtime.NumGoroutine") = false) (vars : List Nat) {rs : List ResultVar} (hrs : fn.results.toList = rs) (hnd : (rs.map rslot).Nodup) {n : Nat} (hn : fn.ntmps = n) {as : List Arg} {cs : List Comp}
    (hargs : as.length ≤ n) (h : aCode aDraw P body (RetD P rs cs) (fun _ _ => False) (RetD P rs cs) (start n vars as)) : FSpec P f as cs := by
  refine fspec_ofR aDraw (aDraw_ok hmix) hf hb hname vars hrs hnd hn hargs (fun s hR => ?_) h
  unfold RetD at hR
  split at hR
  · rename_i cs' e
    exact ⟨cs', e, fun w w' I v hc => hR ▸ hc.data⟩
  · exact hR.elim
/-! ### Results some of which stay owned -/
def mixC : List Bool → List Comp → List Comp
  | b :: bs, c :: cs => (if b = true then c else c.data) :: mixC bs cs
  | _, cs => cs.map Comp.data
theorem mixC_nil (cs : List Comp) : mixC [] cs = cs.map Comp.data := by cases cs <;> rfl
theorem mixC_get : ∀ (fl : List Bool) (cs : List Comp) (j : Nat) (c' : Comp), (mixC fl cs)[j]? = some c' → ∃ c, cs[j]? = some c ∧ (c' = c ∨ c' = c.data)
  | [], cs, j, c', h => by
    rw [mixC_nil, List.getElem?_map] at h
    cases hj : cs[j]? with
    | none => rw [hj] at h; cases h
    | some c => rw [hj] at h; simp at h; exact ⟨c, rfl, .inr h.symm⟩
  | b :: bs, [], j, c', h => by simp [mixC] at h
  | b :: bs, c :: cs, 0, c', h => by
    simp only [mixC, List.getElem?_cons_zero, Option.some.injEq] at h
    subst h
    refine ⟨c, rfl, ?_⟩
    split
    · exact .inl rfl
    · exact .inr rfl
  | b :: bs, c :: cs, j + 1, c', h => by
    simp only [mixC, List.getElem?_cons_succ] at h ⊢
    exact mixC_get bs cs j c' h
theorem mixC_len : ∀ (fl : List Bool) (cs : List Comp), (mixC fl cs).length = cs.length
  | [], cs => by rw [mixC_nil]; simp
  | _ :: _, [] => rfl
  | b :: bs, c :: cs => by simp [mixC, mixC_len bs cs]
theorem mixC_one (fl : List Bool) (c : Comp) : mixC fl [c] = [c] ∨ mixC fl [c] = [c.data] := by
  cases fl with
  | nil => right; rfl
  | cons b bs =>
    have : mixC bs [] = [] := by cases bs <;> rfl
    simp only [mixC, this]
    split
    · exact .inl rfl
    · exact .inr rfl
theorem mix_blocks {w : World} {v : Value} (fl : List Bool) (cs : List Comp) {i b : Nat} (h : (resT (mixC fl cs)).blocks w v i = some b) : (resT cs).blocks w v i = some b := by
  rcases cs with _ | ⟨c, _ | ⟨c2, r⟩⟩
  · have : mixC fl [] = [] := by cases fl <;> rfl
    rw [this] at h; exact h
  · rcases mixC_one fl c with e | e
    · rw [e] at h; exact h
    · rw [e, resT_none (fun j sz rows hh => by
        cases j with
        | zero => simp at hh; cases c with
          | agg ds => simp [Comp.data] at hh
          | one lf => cases lf <;> simp [Comp.data] at hh
        | succ j => simp at hh)] at h
      cases h
  · have hl := mixC_len fl (c :: c2 :: r)
    obtain ⟨m1, m2, mr, hm⟩ : ∃ m1 m2 mr, mixC fl (c :: c2 :: r) = m1 :: m2 :: mr := by
      cases hmm : mixC fl (c :: c2 :: r) with
      | nil => rw [hmm] at hl; simp at hl
      | cons a l => cases l with
        | nil => rw [hmm] at hl; simp at hl
        | cons b l => exact ⟨a, b, l, rfl⟩
    rw [hm, resT_two] at h
    rw [resT_two]
    unfold T.blocks at h ⊢
    dsimp only at h ⊢
    split at h
    · rename_i sz rows vs e1
      rw [← hm] at e1
      obtain ⟨c0, h1, h2⟩ := mixC_get _ _ _ _ e1
      have : c0 = .one (.own sz rows) := by
        rcases h2 with h2 | h2
        · exact h2.symm
        · cases c0 with
          | agg ds => simp [Comp.data] at h2
          | one lf => cases lf <;> simp [Comp.data] at h2
      subst this
      rw [h1]
      exact h
    · cases h
theorem Came.mix (fl : List Bool) {w w' : World} {I : Nat → Prop} {v : Value} {cs : List Comp} (h : Came w w' I v cs) : Came w w' I v (mixC fl cs) := by
  obtain ⟨hfr, I', h1, h2, h3, h4, h5⟩ := h
  let I2 : Nat → Prop := fun b => I' b ∨ ∃ i, (resT cs).blocks w' v i = some b ∧ (resT (mixC fl cs)).blocks w' v i ≠ some b
  refine ⟨hfr, I2, fun b hb => .inl (h1 b hb), fun b hb => ?_, ?_, fun i b hb => ?_, fun i j b e1 e2 => h5 i j b (mix_blocks fl cs e1) (mix_blocks fl cs e2)⟩
  · rcases hb with hb | ⟨i, hb, _⟩
    · exact h2 b hb
    · exact ⟨(h4 i b hb).2.2, .inr (h4 i b hb).2.1⟩
  · have hI : ∀ b, I' b → I2 b := fun _ e => .inl e
    rcases cs with _ | ⟨c, _ | ⟨c2, r⟩⟩
    · have : mixC fl [] = [] := by cases fl <;> rfl
      rw [this]
      obtain ⟨vs, a1, a2, a3⟩ := h3
      exact ⟨vs, a1, a2, fun j c hc => by simp at hc⟩
    · rcases mixC_one fl c with e | e
      · rw [e]
        exact RepV.mono (fun _ _ => rfl) hI (fun _ _ _ => rfl) (fun _ _ _ _ _ => rfl) h3
      · rw [e]
        cases c with
        | agg ds => obtain ⟨cs', e, h⟩ := h3; exact ⟨cs', e, h.mono (fun _ _ => rfl) hI⟩
        | one lf => cases lf with
          | d x => exact RepD.mono (fun _ _ => rfl) hI h3
          | own sz rows =>
            refine OwnL.data h3 hI (fun b hb => .inr ⟨0, by simp [resT, T.blocks, hb], ?_⟩)
            rw [e]
            simp [resT, Comp.data, T.blocks]
          | hole =>
            obtain ⟨vs, a1, a2, a3⟩ := h3
            refine ⟨vs, a1, a2, fun j c hc => ?_⟩
            cases j with
            | zero => simp [Comp.data] at hc; subst hc; trivial
            | succ j => simp [Comp.data] at hc
    · have hl := mixC_len fl (c :: c2 :: r)
      obtain ⟨m1, m2, mr, hm⟩ : ∃ m1 m2 mr, mixC fl (c :: c2 :: r) = m1 :: m2 :: mr := by
        cases hmm : mixC fl (c :: c2 :: r) with
        | nil => rw [hmm] at hl; simp at hl
        | cons a l => cases l with
          | nil => rw [hmm] at hl; simp at hl
          | cons b l => exact ⟨a, b, l, rfl⟩
      have e1 := resT_two c c2 r
      have e2 : resT (mixC fl (c :: c2 :: r)) = .tup (mixC fl (c :: c2 :: r)) := by rw [hm]; exact resT_two m1 m2 mr
      rw [e1] at h3
      rw [e2]
      obtain ⟨vs, a1, a2, a3⟩ := h3
      refine ⟨vs, a1, a2.trans hl.symm, fun j c' hc => ?_⟩
      obtain ⟨c0, k1, k2⟩ := mixC_get _ _ _ _ hc
      rcases k2 with rfl | rfl
      · have := a3 j c' k1
        cases c' with
        | agg ds => obtain ⟨cs', e, h⟩ := this; exact ⟨cs', e, h.mono (fun _ _ => rfl) hI⟩
        | one lf => exact RepLf.mono (fun _ _ => rfl) hI (fun _ _ _ _ _ => rfl) this
      · refine RepC.data hI (fun sz rows e b hb => .inr ⟨j, ?_, ?_⟩) (a3 j c0 k1)
        · rw [e1]
          subst e
          simp only [T.blocks, k1, a1]
          exact hb
        · rw [e2]
          subst e
          simp only [T.blocks, hc, Comp.data]
          simp
  · refine ⟨fun hb2 => ?_, (h4 i b (mix_blocks fl cs hb)).2⟩
    rcases hb2 with hb2 | ⟨j, k1, k2⟩
    · exact (h4 i b (mix_blocks fl cs hb)).1 hb2
    · have := h5 i j b (mix_blocks fl cs hb) k1
      subst this
      exact k2 hb
def RetM (P : Program) (fl : List Bool) (rs : List ResultVar) (cs : List Comp) (s : S) : Prop :=
  match retCs P s rs with
  | some cs' => mixC fl cs' = cs
  | none => False
theorem fspec_mix (fl : List Bool) {P : Program} (hmix : P.follows .mixedOrders = true) {f : FuncId} {fn : Func} {body : Code} (hf : P.funcs[f]? = some fn) (hb : fn.body = some body) (hname : (fn.name == "runtime.NumGoroutine") = false) (vars : List Nat) {rs : List ResultVar} (hrs : fn.results.toList = rs) (hnd : (rs.map rslot).Nodup) {n : Nat} (hn : fn.ntmps = n) {as : List Arg} {cs : List Comp}
    (hargs : as.length ≤ n) (h : aCode aDraw P body (RetM P fl rs cs) (fun _ _ => False) (RetM P fl rs cs) (start n vars as)) : FSpec P f as cs := by
  refine fspec_ofR aDraw (aDraw_ok hmix) hf hb hname vars hrs hnd hn hargs (fun s hR => ?_) h
  unfold RetM at hR
  split at hR
  · rename_i cs' e
    exact ⟨cs', e, fun w w' I v hc => hR ▸ hc.mix fl⟩
  · exact hR.elim
attribute [go_sem] RetM mixC
attribute [go_sem] RetD Comp.data Nat.mul_one List.length_map List.length_set List.set_set
theorem exists_cast {x : Int} {P : Nat → Prop} : (∃ h : Nat, x = (h : Int) ∧ P h) = (0 ≤ x ∧ P x.toNat) := by
  apply propext
  constructor
  · rintro ⟨h, rfl, hp⟩; exact ⟨Int.natCast_nonneg h, by simpa using hp⟩
  · rintro ⟨h0, hp⟩; exact ⟨x.toNat, (Int.toNat_of_nonneg h0).symm, hp⟩
attribute [go_sem] exists_cast exists_and_left
/-! ### Short words for the printed walks -/
theorem wgo {P Q : Prop} (h : Q) (e : P = Q := by first | (conv => lhs; simp (maxSteps := 2000000) only [go_sem, ↓reduceIte, reduceCtorEq, Nat.reduceLT, Nat.reduceLeDiff, Nat.reduceEqDiff, Nat.reduceMul, Nat.reduceAdd, Nat.reduceSub, Int.reduceLE, Int.reduceLT]) | rfl) : P := e.mpr h
theorem cj {A B : Prop} (h : B) (a : A := by first | assumption | (show chk _ _ _ = true; kernel_rfl) | (show isSl _ _ = true; kernel_rfl) | omega | (simp; done)) : A ∧ B := ⟨a, h⟩
theorem kIf2 {α : Type} {β : Bool} {A B c : Prop} [Decidable c] {x y : Option α} {r : α} (h : (if c then x else y) = some r) (h1 : c → x = some r → A) (h2 : ¬c → y = some r → B)
    (e : β = true ↔ c := by first | exact decide_eq_true_iff | exact Iff.rfl | (simp; done) | (constructor <;> intro hb <;> first | (simpa using hb) | (simp at hb ⊢; grind))) : kIf β A B := by
  refine kIf_of (fun hb => ?_) (fun hb => ?_)
  · have hc := e.1 hb
    rw [if_pos hc] at h; exact h1 hc h
  · have hc : ¬c := fun hc => by rw [e.2 hc] at hb; cases hb
    rw [if_neg hc] at h; exact h2 hc h
theorem kIf3 {α : Type} {β : Bool} {A B c : Prop} [Decidable c] {x y : Option α} {r : α} (h : (if c then x else y) = some r) (h2 : ¬c → y = some r → A) (h1 : c → x = some r → B)
    (e : β = true ↔ ¬c := by first | exact decide_eq_true_iff | exact Iff.rfl | (simp; done) | (constructor <;> intro hb <;> first | (simpa using hb) | (simp at hb ⊢; grind))) : kIf β A B := by
  refine kIf_of (fun hb => ?_) (fun hb => ?_)
  · have hc := e.1 hb
    rw [if_neg hc] at h; exact h2 hc h
  · have hc : c := Classical.not_not.1 fun hc => by rw [e.2 hc] at hb; cases hb
    rw [if_pos hc] at h; exact h1 hc h
theorem fin {P : Prop} (h : P := by (try simp (maxSteps := 2000000) only [go_sem, ↓reduceIte, reduceCtorEq, Nat.reduceLT, Nat.reduceLeDiff, Nat.reduceEqDiff, Nat.reduceMul, Nat.reduceAdd, Nat.reduceSub, Int.reduceLE, Int.reduceLT]) <;> first | rfl | ((repeat (first | refine And.intro (by first | assumption | (show chk _ _ _ = true; kernel_rfl) | (show isSl _ _ = true; kernel_rfl) | omega | (simp; done)) ?_ | rfl | omega | simp only [rowsD_append, rowsD_cons, rowsD_nil, rowsD_set, rowsD_take, rowsD_drop, rowsD_replicate])); done) | (simp only [rowsD_append, rowsD_cons, rowsD_nil, rowsD_set, rowsD_take, rowsD_drop, rowsD_replicate]; done) | (simp only [rowsD_append, rowsD_cons, rowsD_nil, rowsD_set, rowsD_take, rowsD_drop, rowsD_replicate]; rfl) | (simp; done)) : P := h
theorem fxs {P : Prop} (h : P := by (try simp only [go_sem, List.map_set, rowsD_append, rowsD_cons, rowsD_nil, rowsD_set, rowsD_take, rowsD_drop, rowsD_replicate]) <;> (repeat' first | exact FlexV.nil | exact FlexT.refl _ | exact FlexT.none _ | exact FlexT.frz _ _ | exact FlexT.nil _ | exact FlexB.nil | exact FlexL.refl _ | exact FlexL.nil _ | exact FlexL.frz _ _ | refine FlexV.cons ?_ ?_ | refine FlexT.box ?_ | refine FlexB.cons ?_ ?_ | refine Flex.mk ?_)) : P := h
end Go.Ax
