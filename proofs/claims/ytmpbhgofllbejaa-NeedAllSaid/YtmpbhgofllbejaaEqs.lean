/- Structs of plain parts held against one another. -/
import Derived.Test.YtmpbhgofllbejaaLibA
import Derived.Laws.StructEq
import Derived.ChangeKeysEq
set_option linter.unusedVariables false
set_option linter.unusedSimpArgs false
set_option linter.unusedVariables false
set_option linter.unusedSimpArgs false
namespace Go.Ax
open Go

/-- The plain parts of a struct, of an inner one too: their places and kinds. -/
inductive PK where
  | int (k : IntKind)
  | bool
/-- A part as a value. -/
def PK.is : PK → Value → Bool
  | .int k, .int k' _ => k = k'
  | .bool, .bool _ => true
  | _, _ => false
def pkOf (P : Program) (t : TypeId) : Option PK :=
  match P.underlying t with
  | some (.int k) => some (.int k)
  | some .bool => some .bool
  | _ => none
/-- Fields that are plain, one behind another from place k on. -/
def plainFs (P : Program) : List Field → Nat → Bool
  | [], _ => true
  | f :: r, k => f.name != "_" && f.offset == k && P.plainKey f.type && (pkOf P f.type).isSome && plainFs P r (k + 1)
def kinds (P : Program) (fs : List Field) : List (Option PK) := fs.map fun f => pkOf P f.type
def isKs : List (Option PK) → List Value → Bool
  | [], [] => true
  | some k :: ks, v :: vs => k.is v && isKs ks vs
  | _, _ => false

def eqV : Value → Value → Bool
  | .int _ a, .int _ b => a == b
  | .bool a, .bool b => a == b
  | _, _ => false
def eqVs : List Value → List Value → Bool
  | [], [] => true
  | [v], [u] => eqV v u
  | v :: vs, u :: us => eqV v u && eqVs vs us
  | _, _ => false
theorem eqVs_cons (v u : Value) (vs us : List Value) (h : vs.length = us.length) : eqVs (v :: vs) (u :: us) = (eqV v u && eqVs vs us) := by
  cases vs <;> cases us <;> simp_all [eqVs]

section
variable {P : Program} {w : World}
theorem isKs_len : ∀ {ks : List (Option PK)} {us : List Value}, isKs ks us = true → us.length = ks.length
  | [], [], _ => rfl
  | some k :: ks, v :: vs, h => by
    simp only [isKs, Bool.and_eq_true] at h
    simp [isKs_len h.2]
  | none :: _, _, h => by simp [isKs] at h
  | [], _ :: _, h => by simp [isKs] at h
  | some _ :: _, [], h => by simp [isKs] at h
theorem eqFields_flat {d : Nat} : ∀ (fs : List Field) (k : Nat) (xs ys : Array Value), plainFs P fs k = true → isKs (kinds P fs) (xs.toList.drop k) = true → isKs (kinds P fs) (ys.toList.drop k) = true →
    (Op.eqFields (d + 1) xs ys fs).run P w = .ok (eqVs (xs.toList.drop k) (ys.toList.drop k)) w := by
  intro fs
  induction fs with
  | nil =>
    intro k xs ys _ hx hy
    have h0 : ∀ l : List Value, isKs (kinds P []) l = true → l = [] := fun l h => by cases l <;> simp_all [kinds, isKs]
    rw [h0 _ hx, h0 _ hy]
    simp [Op.eqFields, eqVs]
  | cons f fs ih =>
    intro k xs ys h hx hy
    simp only [plainFs, Bool.and_eq_true, bne_iff_ne, beq_iff_eq] at h
    obtain ⟨⟨⟨⟨hn, ho⟩, hpk⟩, hk⟩, hr⟩ := h
    have uncons : ∀ {zs : Array Value}, isKs (kinds P (f :: fs)) (zs.toList.drop k) = true → ∃ (q : PK) (v : Value), pkOf P f.type = some q ∧ q.is v = true ∧ zs[k]? = some v ∧ zs.toList.drop k = v :: zs.toList.drop (k + 1) ∧ isKs (kinds P fs) (zs.toList.drop (k + 1)) = true := by
      intro zs hz
      cases e : zs.toList.drop k with
      | nil => rw [e] at hz; simp [kinds, isKs] at hz
      | cons v r =>
        rw [e] at hz
        obtain ⟨q, hq⟩ := Option.isSome_iff_exists.1 hk
        simp only [kinds, List.map_cons, hq, isKs, Bool.and_eq_true] at hz
        have hlt : k < zs.toList.length := by
          rcases Nat.lt_or_ge k zs.toList.length with h | h
          · exact h
          · rw [List.drop_eq_nil_of_le h] at e; cases e
        rw [List.drop_eq_getElem_cons hlt] at e
        obtain ⟨e1, e2⟩ := List.cons.inj e
        refine ⟨q, v, hq, hz.1, ?_, ?_, ?_⟩
        · rw [← e1, ← Array.getElem?_toList, List.getElem?_eq_getElem hlt]
        · rw [e2]
        · rw [e2]; exact hz.2
    obtain ⟨q, u, hq, hu, gu, eu, ku⟩ := uncons hx
    obtain ⟨q', v, hq', hv, gv, ev, kv⟩ := uncons hy
    rw [hq] at hq'
    cases hq'
    have pu := run_part_plain (w := w) (off := f.offset) (xs := xs) (v := u) hpk (by rw [ho]; exact gu)
    have pv := run_part_plain (w := w) (off := f.offset) (xs := ys) (v := v) hpk (by rw [ho]; exact gv)
    have he : (Op.equalIn (d + 1) f.type u v).run P w = .ok (eqV u v) w := by
      unfold pkOf at hq
      cases q with
      | int kk =>
        have hund : P.underlying f.type = some (.int kk) := by
          split at hq <;> simp_all
        cases u <;> simp [PK.is] at hu
        cases v <;> simp [PK.is] at hv
        subst hu hv
        exact run_equalIn_int w d f.type _ kk _ _ hund
      | bool =>
        have hund : P.underlying f.type = some .bool := by
          split at hq <;> simp_all
        cases u <;> simp [PK.is] at hu
        cases v <;> simp [PK.is] at hv
        exact run_equalIn_bool' w d f.type _ _ hund
    rw [Op.eqFields]
    simp only [if_pos hn, Sem.run_bind, pu, pv, he, Result.andThen_ok]
    rw [eu, ev, eqVs_cons _ _ _ _ (by rw [isKs_len ku, isKs_len kv])]
    cases hab : eqV u v
    · simp
    · simpa using ih (k + 1) xs ys hr ku kv

theorem repL_v {I : Nat → Prop} : ∀ {us xs : List Value}, RepL w I (us.map D.v) xs → xs = us
  | [], xs, h => by
    have := h.1
    cases xs with
    | nil => rfl
    | cons a r => simp at this
  | u :: us, xs, h => by
    obtain ⟨v, vs, rfl, h1, h2⟩ := RepL.cons_inv h
    rw [repL_v h2, (RepD.v_inv h1).1]

theorem isKs_one : ∀ {ks : List (Option PK)} {us : List Value}, isKs ks us = true → ∀ u ∈ us, u.oneCell' = true
  | ks, [], _, u, hu => by cases hu
  | [], _ :: _, h, _, _ => by simp [isKs] at h
  | none :: _, _ :: _, h, _, _ => by simp [isKs] at h
  | some k :: ks, v :: vs, h, u, hu => by
    simp only [isKs, Bool.and_eq_true] at h
    rcases List.mem_cons.1 hu with rfl | hu
    · cases k <;> cases u <;> simp_all [PK.is] <;> rfl
    · exact isKs_one h.2 u hu

theorem repL_of {I : Nat → Prop} : ∀ {us : List Value}, (∀ u ∈ us, u.oneCell' = true) → RepL w I (us.map D.v) us
  | [], _ => ⟨rfl, fun j d v h => by cases h⟩
  | u :: us, h => RepL.cons (.v _ (h u (List.mem_cons_self ..))) (repL_of fun x hx => h x (List.mem_cons_of_mem _ hx))

/-- WHAT STRUCTS OF PLAIN PARTS COME TO WHERE THEY ARE HELD AGAINST ONE ANOTHER. -/
theorem eqAgg_flat {t : TypeId} {fs : Array Field} (hu : P.underlying t = some (.struct fs)) (hg : P.eqGuardType P.depth t = false) (hp : P.stoodInHeld t = false) (hf : plainFs P fs.toList 0 = true) {xs ys : List Value}
    (hx : isKs (kinds P fs.toList) xs = true) (hy : isKs (kinds P fs.toList) ys = true) (op : BinOp) (K : T → Prop) :
    eqAgg P op t (xs.map D.v) (ys.map D.v) K = match op with
      | .eql => K (.one (.v (.bool (eqVs xs ys))))
      | .neq => K (.one (.v (.bool (!eqVs xs ys))))
      | _ => False := by
  have run : ∀ w : World, (Op.equal t (.agg xs.toArray) (.agg ys.toArray)).run P w = .ok (eqVs xs ys) w := by
    intro w
    have hfo : P.fieldsOf t = fs := by simp [Program.fieldsOf, hu]
    rw [show Op.equal t (.agg xs.toArray) (.agg ys.toArray) = Op.equalIn (9999 + 1) t (.agg xs.toArray) (.agg ys.toArray) from rfl, run_equalIn_struct w 9999 t _ _ (by rw [hfo]; exact hu) hp, hfo]
    have := eqFields_flat (P := P) (w := w) (d := 9998) fs.toList 0 xs.toArray ys.toArray hf (by simpa using hx) (by simpa using hy)
    simpa using this
  have main : EqTy P t (xs.map D.v) (ys.map D.v) (eqVs xs ys) := by
    refine ⟨hg, fun w I xs' ys' h1 h2 => ?_⟩
    rw [repL_v h1, repL_v h2]
    exact run w
  have uniq : ∀ β, EqTy P t (xs.map D.v) (ys.map D.v) β → β = eqVs xs ys := by
    rintro β ⟨_, h⟩
    have h1 := h default (fun _ => True) xs ys (repL_of (isKs_one hx)) (repL_of (isKs_one hy))
    rw [run default] at h1
    simpa using h1.symm
  unfold eqAgg
  refine propext ⟨?_, ?_⟩
  · rintro ⟨β, h1, h2⟩
    rw [uniq β h1] at h2
    exact h2
  · intro h
    exact ⟨_, main, h⟩
end
end Go.Ax
