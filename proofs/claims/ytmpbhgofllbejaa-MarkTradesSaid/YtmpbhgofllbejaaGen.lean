/- A walk that stops at each branch, and contracts whose lists are data: what printed walks lean on. -/
import Derived.Test.YtmpbhgofllbejaaLibE
import Derived.Test.YtmpbhgofllbejaaLibC
set_option linter.unusedVariables false
set_option linter.unusedSimpArgs false
set_option linter.unusedVariables false
set_option linter.unusedSimpArgs false
namespace Go.Ax
open Go
/-- A branch whose two ways are not looked into. -/
def kIf (β : Bool) (A B : Prop) : Prop := (β = true → A) ∧ (β = false → B)
theorem kIf_of {β : Bool} {A B : Prop} (h1 : β = true → A) (h2 : β = false → B) : kIf β A B := ⟨h1, h2⟩
theorem kIf_true (A B : Prop) : kIf true A B = A := by simp [kIf]
theorem kIf_false (A B : Prop) : kIf false A B = B := by simp [kIf]
@[congr] theorem kIf_congr {β β' : Bool} {A B : Prop} (h : β = β') : kIf β A B = kIf β' A B := by rw [h]
theorem g_aOps (P : Program) (ops : Array Oper) (o : Oper) (r : List Oper) (s : S) (K : S → Prop) : aOps P ops (o :: r) s K = match o.guard with
    | none => match nilTest o with
      | some (d, t, x) => nilOp P d t x s (kOps P ops r K)
      | none => match boxMove o s with
        | some (d, y, cells) => kBox d y cells s (kOps P ops r K)
        | none => aOp P o (preS P o s) (kOps P ops r K)
    | some (j, b) => match guardOf ops s j b with
      | some β => kIf (β == b) (aOp P o (preS P o (s.known ops j b)) (kOps P ops r K)) ((∀ d, o.dst = some d → d < s.n) ∧ aOps P ops r (skipS o (s.known ops j (!b))) K)
      | none => False := by
  rw [aOps_cons]
  rcases o.guard with _ | ⟨j, b⟩
  · rfl
  · simp only
    rcases guardOf ops s j b with _ | β
    · rfl
    · cases β <;> cases b <;> simp [kIf]
theorem g_aSeq (P : Program) (ops : Array Oper) (o : Oper) (r : List Oper) (tr : List Fp) (s : S) (K : S → Prop) : aSeq P ops (o :: r) tr s K = match o.guard with
    | none => live o s = true ∧ aOp P o s (kSeqD P ops r (fpOf P ops o s :: tr) K)
    | some (j, b) => match guardOf ops s j b with
      | some β => kIf (β == b) (live o (s.known ops j b) = true ∧ aOp P o (s.known ops j b) (kSeqD P ops r (fpOf P ops o (s.known ops j b) :: tr) K))
        ((∀ d, o.dst = some d → d < s.n) ∧ aSeq P ops r (fpSkip ops s.n o :: tr) (skipS o (s.known ops j (!b))) K)
      | none => False := by
  rw [aSeq_cons]
  rcases o.guard with _ | ⟨j, b⟩
  · rfl
  · simp only
    rcases guardOf ops s j b with _ | β
    · rfl
    · cases β <;> cases b <;> simp [kIf]
theorem g_cond (aD : Program → Array Oper → S → (S → Prop) → Prop) (P : Program) (c : Operand) (x y : Code) (Kn : S → Prop) (E : Nat → S → Prop) (R : S → Prop) (s : S) : aCode aD P (.cond c x y) Kn E R s = match opd s c with
    | .one (.v (.bool β)) => kIf β (aCode aD P x Kn E R s.shut) (aCode aD P y Kn E R s.shut)
    | _ => False := by
  rw [aCode_cond]
  rcases opd s c with _ | ⟨_ | _⟩ <;> try rfl
theorem g_pick (P : Program) (c a b : Operand) (ev : Operand → R) (K : T → Prop) : qOp P (.pick c a b) ev K = match (ev c).t with
    | .one (.v (.bool β)) => kIf β (qMove (ev a) K) (qMove (ev b) K)
    | _ => False := by
  simp only [qOp]
  rcases (ev c).t with _ | ⟨_ | _⟩ <;> try rfl
theorem beq_tt (b : Bool) : (b == true) = b := by cases b <;> rfl
theorem beq_ff (b : Bool) : (b == false) = !b := by cases b <;> rfl
attribute [go_sem high] g_aOps g_aSeq g_cond g_pick
attribute [go_sem] kIf_true kIf_false beq_tt beq_ff decide_true decide_false

/-- A branch that simp does not look into. -/
structure Tie (A B : Prop) : Type where
def kIg (β : Bool) (A B : Prop) (w : Tie A B) : Prop := kIf β A B
theorem kIf_blk (β : Bool) (A B : Prop) : kIf β A B = kIg β A B ⟨⟩ := rfl
theorem kIg_true (A B : Prop) (w : Tie A B) : kIg true A B w = A := kIf_true A B
theorem kIg_false (A B : Prop) (w : Tie A B) : kIg false A B w = B := kIf_false A B
attribute [go_sem] kIg_true kIg_false
attribute [irreducible] kIf kIg
/-- Either way, where a list is empty: both come to the same. -/
def nilT {α : Type} [DecidableEq α] (c : Prop) [Decidable c] (x y : Option α) : Option α := if c then (if x = y then y else none) else y
theorem nilT_f {α : Type} [DecidableEq α] {c : Prop} [Decidable c] {x y : Option α} {r : α} (h : nilT c x y = some r) : y = some r := by
  unfold nilT at h
  split at h
  · split at h
    · exact h
    · cases h
  · exact h
theorem nilT_t {α : Type} [DecidableEq α] {c : Prop} [Decidable c] {x y : Option α} {r : α} (h : nilT c x y = some r) (hc : c) : x = some r := by
  unfold nilT at h
  rw [if_pos hc] at h
  split at h
  · rename_i e; rw [e]; exact h
  · cases h
theorem kNil_of {s : S} {d : Nat} {rows : List (List D)} {K : S → Prop} (h1 : K (s.put d (.one (.v (.bool false))))) (h2 : rows = [] → K (s.put d (.one (.v (.bool true))))) : kNil s d rows K := ⟨h1, h2⟩
@[congr] theorem kNil_cg {s s' : S} {d : Nat} {rows rows' : List (List D)} {K : S → Prop} (h : s = s') (hr : rows = rows') : kNil s d rows K = kNil s' d rows' K := by rw [h, hr]
-- a walk looks at the state alone, not at the code behind
section
variable {P : Program} {ops : Array Oper} {r : List Oper} {K Kn R : S → Prop} {E : Nat → S → Prop} {aD : Program → Array Oper → S → (S → Prop) → Prop} {s s' : S}
@[congr] theorem aSeq_cg {tr tr' : List Fp} (ht : tr = tr') (h : s = s') : aSeq P ops r tr s K = aSeq P ops r tr' s' K := by rw [ht, h]
@[congr] theorem aOps_cg (h : s = s') : aOps P ops r s K = aOps P ops r s' K := by rw [h]
@[congr] theorem aCode_cg {c : Code} (h : s = s') : aCode aD P c Kn E R s = aCode aD P c Kn E R s' := by rw [h]
@[congr] theorem kOps_cg (h : s = s') : kOps P ops r K s = kOps P ops r K s' := by rw [h]
@[congr] theorem kSeqD_cg {tr tr' : List Fp} (ht : tr = tr') (h : s = s') : kSeqD P ops r tr K s = kSeqD P ops r tr' K s' := by rw [ht, h]
@[congr] theorem kSeq_cg {y : Code} (h : s = s') : kSeq aD P y Kn E R s = kSeq aD P y Kn E R s' := by rw [h]
@[congr] theorem kLoop_cg {b : Code} (h : s = s') : kLoop aD P b E R K s = kLoop aD P b E R K s' := by rw [h]
@[congr] theorem aOp_cg {o : Oper} (h : s = s') : aOp P o s K = aOp P o s' K := by rw [h]
end

/-! ### Lists of data -/
def rowsD {α : Type} (f : α → List D) (l : List α) : List (List D) := l.map f
section
variable {α : Type} (f : α → List D)
theorem length_rowsD (l : List α) : (rowsD f l).length = l.length := by simp [rowsD]
theorem rowsD_eq_nil {l : List α} (h : rowsD f l = []) : l = [] := by simpa [rowsD] using h
theorem rowsD_nil : rowsD f [] = [] := rfl
theorem rowsD_cons (x : α) (l : List α) : rowsD f (x :: l) = f x :: rowsD f l := rfl
theorem rowsD_append (l m : List α) : rowsD f (l ++ m) = rowsD f l ++ rowsD f m := by simp [rowsD]
theorem rowsD_set (l : List α) (i : Nat) (x : α) : rowsD f (l.set i x) = (rowsD f l).set i (f x) := by simp [rowsD, List.map_set]
theorem rowsD_take (l : List α) (n : Nat) : rowsD f (l.take n) = (rowsD f l).take n := by simp [rowsD]
theorem rowsD_drop (l : List α) (n : Nat) : rowsD f (l.drop n) = (rowsD f l).drop n := by simp [rowsD]
theorem rowsD_replicate (n : Nat) (x : α) : rowsD f (List.replicate n x) = List.replicate n (f x) := by simp [rowsD]
theorem rowsD_len {n : Nat} (h : ∀ x, (f x).length = n) (l : List α) : (∀ r ∈ rowsD f l, r.length = n) = True := by
  simp only [rowsD, List.mem_map, forall_exists_index, and_imp, forall_apply_eq_imp_iff₂, eq_iff_iff, iff_true]
  exact fun x _ => h x
end
def rd {α : Type} [Inhabited α] (l : List α) (i : Int) : α := l[i.toNat]?.getD default
theorem getD_rowsD {α : Type} [Inhabited α] (f : α → List D) (l : List α) (i : Int) : (rowsD f l).getD i.toNat (f default) = f (rd l i) := by
  rw [List.getD_eq_getElem?_getD]
  simp only [rowsD, List.getElem?_map, rd]
  cases l[i.toNat]? <;> rfl
attribute [go_sem] length_rowsD rowsD_nil
/-- An element of an array, by its place. -/
theorem arr_get {α β : Type} [Inhabited α] (f : α → β) (l : List α) {i : Int} (h0 : 0 ≤ i) (h : i < l.length) : (l.map f)[i.toNat]? = some (f (rd l i)) := by
  have hi : i.toNat < l.length := by omega
  simp [rd, hi]
theorem arr_put {α β : Type} [Inhabited α] (f : α → β) (l : List α) {i : Int} (z : β) (h0 : 0 ≤ i) (h : i < l.length) : (l.map f).take i.toNat ++ z :: (l.map f).drop (i.toNat + 1) = (l.map f).set i.toNat z := by
  rw [List.set_eq_take_append_cons_drop, if_pos (by simp; omega)]
theorem rd_in {α : Type} [Inhabited α] (f : α → List D) (l : List α) {i : Int} (z : List D) (h0 : 0 ≤ i) (h1 : i < (l.length : Int)) : (rowsD f l).getD i.toNat z = f (rd l i) := by
  have h : i.toNat < (rowsD f l).length := by rw [length_rowsD]; omega
  rw [← getD_rowsD f l i]; simp [List.getD_eq_getElem?_getD, List.getElem?_eq_getElem h]
theorem arr_put2 {α β : Type} [Inhabited α] (f : α → β) (l : List α) {i : Int} (z : β) (h0 : 0 ≤ i) (h : i < l.length) : (l.map f).take i.toNat ++ [z] ++ (l.map f).drop (i.toNat + 1) = (l.map f).set i.toNat z := by
  rw [List.append_assoc]; exact arr_put f l z h0 h
/-- A load of a whole array. -/
theorem arr_frz {α : Type} (sz : Nat) (f : α → List (List D)) (l : List α) {n : Nat} (h : l.length = n) : frzLs 0 n (l.map fun x => Leaf.own sz (f x)) = l.map fun x => Leaf.d (D.l (f x)) := by
  induction l generalizing n with
  | nil => rfl
  | cons a l ih =>
    simp only [List.length_cons] at h
    subst h
    simp only [List.map_cons, frzLs, if_true, Nat.add_sub_cancel]
    exact congrArg _ (ih rfl)
theorem arr_frzd {α : Type} (f : α → D) (l : List α) (off n : Nat) : frzLs off n (l.map fun x => Leaf.d (f x)) = l.map fun x => Leaf.d (f x) := by
  induction l generalizing off n with
  | nil => rfl
  | cons a l ih =>
    simp only [List.map_cons, frzLs, ih]
    congr 1
    split <;> rfl
theorem arr_leaf {α : Type} (f : α → D) (l : List α) {n : Nat} (h : l.length = n) : leafD ((l.map fun x => Leaf.d (f x)).take n) = some (l.map f) := by
  rw [List.take_of_length_le (by simp; omega)]
  clear h
  induction l with
  | nil => rfl
  | cons a l ih => simp only [List.map_cons, leafD, ih, Option.map_some]
theorem arr_take {α : Type} (f : α → D) (l : List α) {n : Nat} (h : l.length = n) : (l.map f).take n = l.map f := List.take_of_length_le (by simp; omega)
def i64D (x : Int) : List D := [.v (.int .i64 x)]
def boolD (x : Bool) : List D := [.v (.bool x)]
def u64D (x : Int) : List D := [.v (.int .u64 x)]
def u8D (x : Int) : List D := [.v (.int .u8 x)]

/-! ### Flows of loops -/
inductive Flow (σ ρ : Type) where
  | out (s : σ)
  | ret (r : ρ)
def Flow.go {σ ρ : Type} (f : Flow σ ρ) (k : σ → Option ρ) : Option ρ :=
  match f with
  | .out s => k s
  | .ret r => some r
theorem Flow.go_out {σ ρ : Type} (s : σ) (k : σ → Option ρ) : (Flow.out s : Flow σ ρ).go k = k s := rfl
theorem Flow.go_ret {σ ρ : Type} (r : ρ) (k : σ → Option ρ) : (Flow.ret r : Flow σ ρ).go k = some r := rfl
def Flow.goL {σ τ ρ : Type} (f : Flow σ ρ) (k : σ → Option (Flow τ ρ)) : Option (Flow τ ρ) :=
  match f with
  | .out s => k s
  | .ret r => some (.ret r)
theorem Flow.goL_out {σ τ ρ : Type} (s : σ) (k : σ → Option (Flow τ ρ)) : (Flow.out s : Flow σ ρ).goL k = k s := rfl
theorem Flow.goL_ret {σ τ ρ : Type} (r : ρ) (k : σ → Option (Flow τ ρ)) : (Flow.ret r : Flow σ ρ).goL k = some (.ret r) := rfl
def FUEL : Nat := 1000000000000000000
theorem ifp {α : Type} {c : Prop} [Decidable c] {x y : Option α} {r : α} (h : (if c then x else y) = some r) (hc : c) : x = some r := by rwa [if_pos hc] at h
theorem ifn {α : Type} {c : Prop} [Decidable c] {x y : Option α} {r : α} (h : (if c then x else y) = some r) (hc : ¬c) : y = some r := by rwa [if_neg hc] at h
theorem gd {α : Type} {c : Prop} [Decidable c] {x : Option α} {r : α} (h : (if c then x else none) = some r) : c ∧ x = some r := by
  by_cases hc : c
  · rw [if_pos hc] at h; exact ⟨hc, h⟩
  · rw [if_neg hc] at h; cases h
theorem bd {α β : Type} {x : Option α} {f : α → Option β} {r : β} (h : x.bind f = some r) : ∃ y, x = some y ∧ f y = some r := Option.bind_eq_some_iff.1 h

/-! ### Results as data, some of them owned still -/
def frzO : List Bool → List ResultVar → S → S
  | fl, .tmp t :: r, s => if fl.headD false = true then frzO fl.tail r s else match look s.vs t with
    | some (.own _ rows) => frzO fl.tail r (s.upd t (.one (.l rows)))
    | _ => frzO fl.tail r s
  | fl, .cell _ _ :: r, s => frzO fl.tail r s
  | _, [], s => s
theorem frzO_flex {w0 w : World} {ext I0 : Nat → Prop} {a : Act} : ∀ (fl : List Bool) (rs : List ResultVar) {s : S}, Ok w0 ext I0 s a w → Ok w0 ext I0 (frzO fl rs s) a w
  | fl, [], s, h => h
  | fl, .cell _ _ :: r, s, h => frzO_flex fl.tail r h
  | fl, .tmp t :: r, s, h => by
    unfold frzO
    split
    · exact frzO_flex fl.tail r h
    · split
      · rename_i sz rows e
        exact frzO_flex fl.tail r (h.flex (upd_flex e (.frz sz rows)))
      · exact frzO_flex fl.tail r h
def RetM (P : Program) (fl : List Bool) (rs : List ResultVar) (cs : List Comp) (s : S) : Prop := Ret P rs cs (frzO fl rs s)
theorem fspec_mix (fl : List Bool) {P : Program} (hmix : P.follows .mixedOrders = true) {f : FuncId} {fn : Func} {body : Code} (hf : P.funcs[f]? = some fn) (hb : fn.body = some body) (hname : (fn.name == "runtime.NumGoroutine") = false) (vars : List Nat) {rs : List ResultVar} (hrs : fn.results.toList = rs) (hnd : (rs.map rslot).Nodup) {n : Nat} (hn : fn.ntmps = n) {as : List Arg} {cs : List Comp}
    (hargs : as.length ≤ n) (h : aCode aDraw P body (RetM P fl rs cs) (fun _ _ => False) (RetM P fl rs cs) (start n vars as)) : FSpec P f as cs :=
  fspec_ofR aDraw (aDraw_ok hmix) hf hb hname vars hrs hnd hn hargs (fun s hR => ⟨frzO fl rs s, fun h => frzO_flex fl rs h, hR⟩) h
theorem fspec_data {P : Program} (hmix : P.follows .mixedOrders = true) {f : FuncId} {fn : Func} {body : Code} (hf : P.funcs[f]? = some fn) (hb : fn.body = some body) (hname : (fn.name == "runtime.NumGoroutine") = false) (vars : List Nat) {rs : List ResultVar} (hrs : fn.results.toList = rs) (hnd : (rs.map rslot).Nodup) {n : Nat} (hn : fn.ntmps = n) {as : List Arg} {cs : List Comp}
    (hargs : as.length ≤ n) (h : aCode aDraw P body (RetM P [] rs cs) (fun _ _ => False) (RetM P [] rs cs) (start n vars as)) : FSpec P f as cs := fspec_mix [] hmix hf hb hname vars hrs hnd hn hargs h
/-! ### Functions that take lists and boxes over -/
def RetX (P : Program) (fl : List Bool) (rs : List ResultVar) (cs : List Comp) (xs : List XA) (os : List (List Leaf)) (s : S) : Prop := Ret P rs cs (frzO fl rs s) ∧ boxesAt 0 xs os (frzO fl rs s)
theorem xspec_mix (fl : List Bool) {P : Program} (hmix : P.follows .mixedOrders = true) {f : FuncId} {fn : Func} {body : Code} (hf : P.funcs[f]? = some fn) (hb : fn.body = some body) (hname : (fn.name == "runtime.NumGoroutine") = false) (vars : List Nat) {rs : List ResultVar} (hrs : fn.results.toList = rs) (hnd : (fn.results.toList.map rslot).Nodup) {n : Nat} (hn : fn.ntmps = n) {xs : List XA} {os : List (List Leaf)} {cs : List Comp}
    (hargs : xs.length ≤ n) (hclear : clearB (boxSlots 0 xs) body = true) (hfree : (boxSlots 0 xs).all (fun k => notIn k (rs.map rslot)) = true) (hvars : (boxSlots 0 xs).all (fun k => k < xs.length) = true)
    (h : aCode aDraw P body (RetX P fl rs cs xs os) (fun _ _ => False) (RetX P fl rs cs xs os) (startX n vars xs)) : XSpec P f xs os cs :=
  xspec_of aDraw (aDraw_ok hmix) hf hb hname vars hrs hnd hn hargs hclear hfree hvars (fun s hR => ⟨frzO fl rs s, fun h => frzO_flex fl rs h, hR⟩) h
theorem xCall_of {P : Program} {g : FuncId} {args : List Operand} {d : Nat} {s : S} {K : S → Prop} (ls : List Bool) {xs : List XA} {es : List XE} {os : List (List Leaf)} {cs : List Comp} (hs : XSpec P g xs os cs) (hk : K (xState es os d cs s))
    (hx : xargs s ls args = some (xs, es) := by (simp (maxSteps := 2000000) only [go_sem, xargs, xarg, ↓reduceIte, reduceCtorEq, Nat.reduceEqDiff]) <;> rfl)
    (h1 : es.any XE.hot = true := by rfl) (h2 : distinct (es.flatMap XE.slot) = true := by rfl) : xCall P g args d s K := ⟨ls, xs, es, os, cs, hx, h1, h2, hs, hk⟩
theorem aCall_x {P : Program} {f : FuncId} {args : List Arg} {K : List Comp → Prop} {X : Prop} (h : X) : aCall P f args K X := .inr h
attribute [go_sem] RetM RetX frzO boxesAt List.headD_cons List.headD_nil List.tail_cons List.tail_nil
attribute [go_sem] Nat.mul_one List.length_map List.length_set List.set_set
theorem exists_cast {x : Int} {P : Nat → Prop} : (∃ h : Nat, x = (h : Int) ∧ P h) = (0 ≤ x ∧ P x.toNat) := by
  apply propext
  constructor
  · rintro ⟨h, rfl, hp⟩; exact ⟨Int.natCast_nonneg h, by simpa using hp⟩
  · rintro ⟨h0, hp⟩; exact ⟨x.toNat, (Int.toNat_of_nonneg h0).symm, hp⟩
attribute [go_sem] exists_cast exists_and_left
/-! ### Short words for the printed walks -/
theorem wgo {P Q : Prop} (h : Q) (e : P = Q := by first | (conv => lhs; simp (maxSteps := 2000000) only [go_sem, p_kSeq, ↓reduceIte, reduceCtorEq, Nat.reduceLT, Nat.reduceLeDiff, Nat.reduceEqDiff, Nat.reduceMul, Nat.reduceAdd, Nat.reduceSub, Int.reduceLE, Int.reduceLT, Int.reduceBNe, Int.reduceBEq]) | rfl) : P := e.mpr h
theorem wgoB {P Q : Prop} (h : Q) (e : P = Q := by first | (conv => lhs; simp (maxSteps := 2000000) only [go_sem, p_kSeq, ↓kIf_blk, ↓reduceIte, reduceCtorEq, Nat.reduceLT, Nat.reduceLeDiff, Nat.reduceEqDiff, Nat.reduceMul, Nat.reduceAdd, Nat.reduceSub, Int.reduceLE, Int.reduceLT, Int.reduceBNe, Int.reduceBEq]) | rfl) : P := e.mpr h
theorem cj {A B : Prop} (h : B) (a : A := by first | assumption | (show chk _ _ _ = true; kernel_rfl) | (show isSl _ _ = true; kernel_rfl) | omega | (simp; done)) : A ∧ B := ⟨a, h⟩
theorem kIf2 {α : Type} {β : Bool} {A B c : Prop} [Decidable c] {x y : Option α} {r : α} (h : (if c then x else y) = some r) (h1 : c → x = some r → A) (h2 : ¬c → y = some r → B)
    (e : β = true ↔ c := by first | exact decide_eq_true_iff | exact Iff.rfl | (simp; done) | (constructor <;> intro hb <;> first | (simpa using hb) | (simp at hb ⊢; grind))) : kIf β A B := by
  refine kIf_of (fun hb => ?_) (fun hb => ?_)
  · have hc := e.1 hb
    rw [if_pos hc] at h; exact h1 hc h
  · have hc : ¬c := fun hc => by rw [e.2 hc] at hb; cases hb
    rw [if_neg hc] at h; exact h2 hc h
theorem kIf3 {α : Type} {β : Bool} {A B c : Prop} [Decidable c] {x y : Option α} {r : α} (h : (if c then x else y) = some r) (h2 : ¬c → y = some r → A) (h1 : c → x = some r → B)
    (e : β = true ↔ ¬c := by first | exact decide_eq_true_iff | exact Iff.rfl | (simp; done) | (constructor <;> intro hb <;> first | (simpa using hb) | (simp at hb ⊢; grind))) : kIf β A B := by
  refine kIf_of (fun hb => ?_) (fun hb => ?_)
  · have hc := e.1 hb
    rw [if_neg hc] at h; exact h2 hc h
  · have hc : c := Classical.not_not.1 fun hc => by rw [e.2 hc] at hb; cases hb
    rw [if_pos hc] at h; exact h1 hc h
theorem kIg2 {α : Type} {β : Bool} {A B c : Prop} [Decidable c] {x y : Option α} {r : α} (h : (if c then x else y) = some r) (h1 : c → x = some r → A) (h2 : ¬c → y = some r → B)
    (e : β = true ↔ c := by first | exact decide_eq_true_iff | exact Iff.rfl | (simp; done) | (constructor <;> intro hb <;> first | (simpa using hb) | (simp at hb ⊢; grind))) : kIg β A B ⟨⟩ := by
  rw [← kIf_blk]; refine kIf_of (fun hb => ?_) (fun hb => ?_)
  · have hc := e.1 hb
    rw [if_pos hc] at h; exact h1 hc h
  · have hc : ¬c := fun hc => by rw [e.2 hc] at hb; cases hb
    rw [if_neg hc] at h; exact h2 hc h
theorem kIg3 {α : Type} {β : Bool} {A B c : Prop} [Decidable c] {x y : Option α} {r : α} (h : (if c then x else y) = some r) (h2 : ¬c → y = some r → A) (h1 : c → x = some r → B)
    (e : β = true ↔ ¬c := by first | exact decide_eq_true_iff | exact Iff.rfl | (simp; done) | (constructor <;> intro hb <;> first | (simpa using hb) | (simp at hb ⊢; grind))) : kIg β A B ⟨⟩ := by
  rw [← kIf_blk]; refine kIf_of (fun hb => ?_) (fun hb => ?_)
  · have hc := e.1 hb
    rw [if_neg hc] at h; exact h2 hc h
  · have hc : c := Classical.not_not.1 fun hc => by rw [e.2 hc] at hb; cases hb
    rw [if_pos hc] at h; exact h1 hc h
theorem fin {P : Prop} (h : P := by (try simp (maxSteps := 2000000) only [go_sem, p_kSeq, ↓reduceIte, reduceCtorEq, Nat.reduceLT, Nat.reduceLeDiff, Nat.reduceEqDiff, Nat.reduceMul, Nat.reduceAdd, Nat.reduceSub, Int.reduceLE, Int.reduceLT, Int.reduceBNe, Int.reduceBEq]) <;> first | rfl | ((repeat (first | refine And.intro (by first | assumption | (show chk _ _ _ = true; kernel_rfl) | (show isSl _ _ = true; kernel_rfl) | omega | (simp; done)) ?_ | rfl | omega | simp only [rowsD_append, rowsD_cons, rowsD_nil, rowsD_set, rowsD_take, rowsD_drop, rowsD_replicate])); done) | (simp only [rowsD_append, rowsD_cons, rowsD_nil, rowsD_set, rowsD_take, rowsD_drop, rowsD_replicate]; done) | (simp only [rowsD_append, rowsD_cons, rowsD_nil, rowsD_set, rowsD_take, rowsD_drop, rowsD_replicate]; rfl) | (simp; done) | (refine ⟨_, ⟨rfl, by omega⟩, by omega, ?_⟩; simp [rowsD, List.take_of_length_le]; done)) : P := h
theorem fxs {P : Prop} (h : P := by (try simp only [go_sem, List.map_set, rowsD_append, rowsD_cons, rowsD_nil, rowsD_set, rowsD_take, rowsD_drop, rowsD_replicate]) <;> (repeat' first | exact FlexV.nil | exact FlexT.refl _ | exact FlexT.none _ | exact FlexT.frz _ _ | exact FlexT.nil _ | exact FlexB.nil | exact FlexL.refl _ | exact FlexL.nil _ | exact FlexL.frz _ _ | refine FlexV.cons ?_ ?_ | refine FlexT.box ?_ | refine FlexB.cons ?_ ?_ | refine Flex.mk ?_)) : P := h
/-! ### Joins: what many ways through a region come to is told once -/
theorem wgoS {P Q : Prop} (h : Q) (e : P = Q := by (conv => lhs; simp (maxSteps := 2000000) only [go_sem, ↓kIf_blk, ↓reduceIte, reduceCtorEq, Nat.reduceLT, Nat.reduceLeDiff, Nat.reduceEqDiff, Nat.reduceMul, Nat.reduceAdd, Nat.reduceSub, Int.reduceLE, Int.reduceLT, Int.reduceBNe, Int.reduceBEq])) : P := e.mpr h
theorem wgoN {P Q : Prop} (h : Q) (e : P = Q := by first | (conv => lhs; simp (maxSteps := 2000000) only [go_sem, ↓kIf_blk, ↓reduceIte, reduceCtorEq, Nat.reduceLT, Nat.reduceLeDiff, Nat.reduceEqDiff, Nat.reduceMul, Nat.reduceAdd, Nat.reduceSub, Int.reduceLE, Int.reduceLT, Int.reduceBNe, Int.reduceBEq]) | rfl) : P := e.mpr h
section
variable {aD : Program → Array Oper → S → (S → Prop) → Prop} {P : Program} {y : Code} {Kn : S → Prop} {E : Nat → S → Prop} {R : S → Prop}
@[congr] theorem kSeq_congr {s s' : S} (h : s = s') : kSeq aD P y Kn E R s = kSeq aD P y Kn E R s' := by rw [h]
theorem kSeq_go (m : Nat) {id : Nat} {ops : Array Oper} {d : Bool} {s : S} (h : aCode aD P (.seq (.region id ops d) y) Kn E R s) (hne : id ≠ m := by decide) : kSeq aD P (.seq (.region id ops d) y) Kn E R s := h
theorem kSeq_any {s : S} (h : aCode aD P y Kn E R s) : kSeq aD P y Kn E R s := h
theorem aSeq2 {x z : Code} {s : S} (h : aCode aD P (.seq x z) (kSeq aD P y Kn E R) E R s) : aCode aD P (.seq (.seq x z) y) Kn E R s := by rw [p_seq]; exact h
theorem aGo (m : Nat) {id : Nat} {ops : Array Oper} {d : Bool} {s : S} (h : aCode aD P (.seq (.region id ops d) y) Kn E R s) (hne : id ≠ m := by decide) : aCode aD P (.seq (.region id ops d) y) Kn E R s := h
theorem aSeq_cut {x : Code} {n : Nat} {ts vs : List (Nat × T)} {α β : Type} {e : Option α} {f : α → Option β} {r : β} (h : e.bind f = some r) (vsf : α → List (Nat × T))
    (J : ∀ b ts', f b = some r → kSeq aD P y Kn E R ⟨n, ts', vsf b⟩) (g : ∀ b, e = some b → (∀ ts', kSeq aD P y Kn E R ⟨n, ts', vsf b⟩) → aCode aD P (.seq x y) Kn E R ⟨n, ts, vs⟩) : aCode aD P (.seq x y) Kn E R ⟨n, ts, vs⟩ := by
  obtain ⟨b, h1, h2⟩ := bd h
  exact g b h1 fun ts' => J b ts' h2
theorem kSeq_in {x : Code} {s : S} (h : aCode aD P (.seq x y) Kn E R s) : kSeq aD P (.seq x y) Kn E R s := h
theorem kSeq_cut {x : Code} {n : Nat} {ts vs : List (Nat × T)} {α β : Type} {e : Option α} {f : α → Option β} {r : β} (h : e.bind f = some r) (vsf : α → List (Nat × T))
    (J : ∀ b ts', f b = some r → kSeq aD P y Kn E R ⟨n, ts', vsf b⟩) (g : ∀ b, e = some b → (∀ ts', kSeq aD P y Kn E R ⟨n, ts', vsf b⟩) → kSeq aD P (.seq x y) Kn E R ⟨n, ts, vs⟩) : kSeq aD P (.seq x y) Kn E R ⟨n, ts, vs⟩ := by
  obtain ⟨b, h1, h2⟩ := bd h
  exact g b h1 fun ts' => J b ts' h2
theorem kSeq_eq {n : Nat} {ts vs vs' : List (Nat × T)} (h : kSeq aD P y Kn E R ⟨n, ts, vs⟩) (e : vs = vs' := by first | rfl | (simp only [rowsD_append, rowsD_cons, rowsD_nil, rowsD_set, rowsD_take, rowsD_drop, rowsD_replicate]; done) | (simp only [go_sem, rowsD_append, rowsD_cons, rowsD_nil, rowsD_set, rowsD_take, rowsD_drop, rowsD_replicate]; done) | (simp; done)) : kSeq aD P y Kn E R ⟨n, ts, vs'⟩ := e ▸ h
end
end Go.Ax
