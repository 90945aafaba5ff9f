/- Structs of plain parts held against one another. -/
import Derived.Test.YtmpbhgofllbejaaLibA
import Derived.Laws.StructEq
import Derived.ChangeKeysEq
set_option linter.unusedVariables false
set_option linter.unusedSimpArgs false
set_option linter.unusedVariables false
set_option linter.unusedSimpArgs false
namespace Go.Ax
open Go

/-- The plain parts of a struct, of an inner one too: their places and kinds. -/
inductive PK where
  | int (k : IntKind)
  | bool
/-- A part as a value. -/
def PK.is : PK → Value → Bool
  | .int k, .int k' _ => k = k'
  | .bool, .bool _ => true
  | _, _ => false
def pkOf (P : Program) (t : TypeId) : Option PK :=
  match P.underlying t with
  | some (.int k) => some (.int k)
  | some .bool => some .bool
  | _ => none
/-- Fields that are plain, one behind another from place k on. -/
def plainFs (P : Program) : List Field → Nat → Bool
  | [], _ => true
  | f :: r, k => f.name != "_" && f.offset == k && P.plainKey f.type && (pkOf P f.type).isSome && plainFs P r (k + 1)
def kinds (P : Program) (fs : List Field) : List (Option PK) := fs.map fun f => pkOf P f.type
def isKs : List (Option PK) → List Value → Bool
  | [], [] => true
  | some k :: ks, v :: vs => k.is v && isKs ks vs
  | _, _ => false

def eqV : Value → Value → Bool
  | .int _ a, .int _ b => a == b
  | .bool a, .bool b => a == b
  | _, _ => false
def eqVs : List Value → List Value → Bool
  | [], [] => true
  | [v], [u] => eqV v u
  | v :: vs, u :: us => eqV v u && eqVs vs us
  | _, _ => false
theorem eqVs_cons (v u : Value) (vs us : List Value) (h : vs.length = us.length) : eqVs (v :: vs) (u :: us) = (eqV v u && eqVs vs us) := by
  cases vs <;> cases us <;> simp_all [eqVs]

section
variable {P : Program} {w : World}
theorem isKs_len : ∀ {ks : List (Option PK)} {us : List Value}, isKs ks us = true → us.length = ks.length
  | [], [], _ => rfl
  | some k :: ks, v :: vs, h => by
    simp only [isKs, Bool.and_eq_true] at h
    simp [isKs_len h.2]
  | none :: _, _, h => by simp [isKs] at h
  | [], _ :: _, h => by simp [isKs] at h
  | some _ :: _, [], h => by simp [isKs] at h
theorem eqFields_flat {d : Nat} : ∀ (fs : List Field) (k : Nat) (xs ys : Array Value), plainFs P fs k = true → isKs (kinds P fs) (xs.toList.drop k) = true → isKs (kinds P fs) (ys.toList.drop k) = true →
    (Op.eqFields (d + 1) xs ys fs).run P w = .ok (eqVs (xs.toList.drop k) (ys.toList.drop k)) w := by
  intro fs
  induction fs with
  | nil =>
    intro k xs ys _ hx hy
    have h0 : ∀ l : List Value, isKs (kinds P []) l = true → l = [] := fun l h => by cases l <;> simp_all [kinds, isKs]
    rw [h0 _ hx, h0 _ hy]
    simp [Op.eqFields, eqVs]
  | cons f fs ih =>
    intro k xs ys h hx hy
    simp only [plainFs, Bool.and_eq_true, bne_iff_ne, beq_iff_eq] at h
    obtain ⟨⟨⟨⟨hn, ho⟩, hpk⟩, hk⟩, hr⟩ := h
    have uncons : ∀ {zs : Array Value}, isKs (kinds P (f :: fs)) (zs.toList.drop k) = true → ∃ (q : PK) (v : Value), pkOf P f.type = some q ∧ q.is v = true ∧ zs[k]? = some v ∧ zs.toList.drop k = v :: zs.toList.drop (k + 1) ∧ isKs (kinds P fs) (zs.toList.drop (k + 1)) = true := by
      intro zs hz
      cases e : zs.toList.drop k with
      | nil => rw [e] at hz; simp [kinds, isKs] at hz
      | cons v r =>
        rw [e] at hz
        obtain ⟨q, hq⟩ := Option.isSome_iff_exists.1 hk
        simp only [kinds, List.map_cons, hq, isKs, Bool.and_eq_true] at hz
        have hlt : k < zs.toList.length := by
          rcases Nat.lt_or_ge k zs.toList.length with h | h
          · exact h
          · rw [List.drop_eq_nil_of_le h] at e; cases e
        rw [List.drop_eq_getElem_cons hlt] at e
        obtain ⟨e1, e2⟩ := List.cons.inj e
        refine ⟨q, v, hq, hz.1, ?_, ?_, ?_⟩
        · rw [← e1, ← Array.getElem?_toList, List.getElem?_eq_getElem hlt]
        · rw [e2]
        · rw [e2]; exact hz.2
    obtain ⟨q, u, hq, hu, gu, eu, ku⟩ := uncons hx
    obtain ⟨q', v, hq', hv, gv, ev, kv⟩ := uncons hy
    rw [hq] at hq'
    cases hq'
    have pu := run_part_plain (w := w) (off := f.offset) (xs := xs) (v := u) hpk (by rw [ho]; exact gu)
    have pv := run_part_plain (w := w) (off := f.offset) (xs := ys) (v := v) hpk (by rw [ho]; exact gv)
    have he : (Op.equalIn (d + 1) f.type u v).run P w = .ok (eqV u v) w := by
      unfold pkOf at hq
      cases q with
      | int kk =>
        have hund : P.underlying f.type = some (.int kk) := by
          split at hq <;> simp_all
        cases u <;> simp [PK.is] at hu
        cases v <;> simp [PK.is] at hv
        subst hu hv
        exact run_equalIn_int w d f.type _ kk _ _ hund
      | bool =>
        have hund : P.underlying f.type = some .bool := by
          split at hq <;> simp_all
        cases u <;> simp [PK.is] at hu
        cases v <;> simp [PK.is] at hv
        exact run_equalIn_bool' w d f.type _ _ hund
    rw [Op.eqFields]
    simp only [if_pos hn, Sem.run_bind, pu, pv, he, Result.andThen_ok]
    rw [eu, ev, eqVs_cons _ _ _ _ (by rw [isKs_len ku, isKs_len kv])]
    cases hab : eqV u v
    · simp
    · simpa using ih (k + 1) xs ys hr ku kv

theorem repL_v {I : Nat → Prop} : ∀ {us xs : List Value}, RepL w I (us.map D.v) xs → xs = us
  | [], xs, h => by
    have := h.1
    cases xs with
    | nil => rfl
    | cons a r => simp at this
  | u :: us, xs, h => by
    obtain ⟨v, vs, rfl, h1, h2⟩ := RepL.cons_inv h
    rw [repL_v h2, (RepD.v_inv h1).1]

theorem isKs_one : ∀ {ks : List (Option PK)} {us : List Value}, isKs ks us = true → ∀ u ∈ us, u.oneCell' = true
  | ks, [], _, u, hu => by cases hu
  | [], _ :: _, h, _, _ => by simp [isKs] at h
  | none :: _, _ :: _, h, _, _ => by simp [isKs] at h
  | some k :: ks, v :: vs, h, u, hu => by
    simp only [isKs, Bool.and_eq_true] at h
    rcases List.mem_cons.1 hu with rfl | hu
    · cases k <;> cases u <;> simp_all [PK.is] <;> rfl
    · exact isKs_one h.2 u hu

theorem repL_of {I : Nat → Prop} : ∀ {us : List Value}, (∀ u ∈ us, u.oneCell' = true) → RepL w I (us.map D.v) us
  | [], _ => ⟨rfl, fun j d v h => by cases h⟩
  | u :: us, h => RepL.cons (.v _ (h u (List.mem_cons_self ..))) (repL_of fun x hx => h x (List.mem_cons_of_mem _ hx))

/-- WHAT STRUCTS OF PLAIN PARTS COME TO WHERE THEY ARE HELD AGAINST ONE ANOTHER. -/
theorem eqAgg_flat {t : TypeId} {fs : Array Field} (hu : P.underlying t = some (.struct fs)) (hg : P.eqGuardType P.depth t = false) (hp : P.stoodInHeld t = false) (hf : plainFs P fs.toList 0 = true) {xs ys : List Value}
    (hx : isKs (kinds P fs.toList) xs = true) (hy : isKs (kinds P fs.toList) ys = true) (op : BinOp) (K : T → Prop) :
    eqAgg P op t (xs.map D.v) (ys.map D.v) K = match op with
      | .eql => K (.one (.v (.bool (eqVs xs ys))))
      | .neq => K (.one (.v (.bool (!eqVs xs ys))))
      | _ => False := by
  have run : ∀ w : World, (Op.equal t (.agg xs.toArray) (.agg ys.toArray)).run P w = .ok (eqVs xs ys) w := by
    intro w
    have hfo : P.fieldsOf t = fs := by simp [Program.fieldsOf, hu]
    rw [show Op.equal t (.agg xs.toArray) (.agg ys.toArray) = Op.equalIn (9999 + 1) t (.agg xs.toArray) (.agg ys.toArray) from rfl, run_equalIn_struct w 9999 t _ _ (by rw [hfo]; exact hu) hp, hfo]
    have := eqFields_flat (P := P) (w := w) (d := 9998) fs.toList 0 xs.toArray ys.toArray hf (by simpa using hx) (by simpa using hy)
    simpa using this
  have main : EqTy P t (xs.map D.v) (ys.map D.v) (eqVs xs ys) := by
    refine ⟨hg, fun w I xs' ys' h1 h2 => ?_⟩
    rw [repL_v h1, repL_v h2]
    exact run w
  have uniq : ∀ β, EqTy P t (xs.map D.v) (ys.map D.v) β → β = eqVs xs ys := by
    rintro β ⟨_, h⟩
    have h1 := h default (fun _ => True) xs ys (repL_of (isKs_one hx)) (repL_of (isKs_one hy))
    rw [run default] at h1
    simpa using h1.symm
  unfold eqAgg
  refine propext ⟨?_, ?_⟩
  · rintro ⟨β, h1, h2⟩
    rw [uniq β h1] at h2
    exact h2
  · intro h
    exact ⟨_, main, h⟩
end

/-! ### Structs within structs, and arrays -/
def chunkV (P : Program) (t : TypeId) (us : List Value) : Value :=
  match P.underlying t with
  | some (.struct _) => .agg us.toArray
  | some (.array _ _) => .agg us.toArray
  | _ => us.headD undef
def dFs (P : Program) (g : TypeId → Option (List PK)) : List Field → Nat → Option (List PK)
  | [], _ => some []
  | f :: r, k => match g f.type, dFs P g r (k + P.cellsOf f.type) with
    | some a, some b => if (f.name != "_" && f.offset == k && a.length == P.cellsOf f.type) = true then some (a ++ b) else none
    | _, _ => none
def deepK (P : Program) : Nat → TypeId → Option (List PK)
  | 0, _ => none
  | m + 1, t => match P.underlying t with
    | some (.int k) => some [.int k]
    | some .bool => some [.bool]
    | some (.struct fs) => if P.stoodInHeld t = true then none else dFs P (deepK P m) fs.toList 0
    | some (.array n e) => match deepK P m e with
      | some a => if (a.length == P.cellsOf e) = true then some (List.replicate n a).flatten else none
      | none => none
    | _ => none
def areKs : List PK → List Value → Bool
  | [], [] => true
  | k :: ks, v :: vs => k.is v && areKs ks vs
  | _, _ => false
theorem areKs_len : ∀ {ks : List PK} {us : List Value}, areKs ks us = true → us.length = ks.length
  | [], [], _ => rfl
  | k :: ks, v :: vs, h => by
    simp only [areKs, Bool.and_eq_true] at h
    simp [areKs_len h.2]
  | [], _ :: _, h => by simp [areKs] at h
  | _ :: _, [], h => by simp [areKs] at h
theorem areKs_app : ∀ {a b : List PK} {us : List Value}, areKs (a ++ b) us = true → areKs a (us.take a.length) = true ∧ areKs b (us.drop a.length) = true
  | [], b, us, h => ⟨by simp [areKs], by simpa using h⟩
  | k :: a, b, [], h => by simp [areKs] at h
  | k :: a, b, u :: us, h => by
    simp only [List.cons_append, areKs, Bool.and_eq_true] at h
    have := areKs_app h.2
    simp only [List.length_cons, List.take_succ_cons, List.drop_succ_cons, areKs, Bool.and_eq_true]
    exact ⟨⟨h.1, this.1⟩, this.2⟩
theorem areKs_one : ∀ {ks : List PK} {us : List Value}, areKs ks us = true → ∀ u ∈ us, u.oneCell' = true
  | _, [], _, u, hu => by cases hu
  | [], _ :: _, h, _, _ => by simp [areKs] at h
  | k :: ks, v :: vs, h, u, hu => by
    simp only [areKs, Bool.and_eq_true] at h
    rcases List.mem_cons.1 hu with rfl | hu
    · cases k <;> cases u <;> simp_all [PK.is] <;> rfl
    · exact areKs_one h.2 u hu
theorem eqVs_app : ∀ {a b c d : List Value}, a.length = b.length → c.length = d.length → eqVs (a ++ c) (b ++ d) = (eqVs a b && eqVs c d)
  | [], [], c, d, _, _ => by simp [eqVs]
  | x :: a, y :: b, c, d, h, h2 => by
    simp only [List.length_cons, Nat.add_right_cancel_iff] at h
    rw [List.cons_append, List.cons_append, eqVs_cons _ _ _ _ (by simp [h, h2]), eqVs_cons _ _ _ _ h, eqVs_app h h2, Bool.and_assoc]
  | [], _ :: _, _, _, h, _ => by simp at h
  | _ :: _, [], _, _, h, _ => by simp at h
def EqD (P : Program) (dd : Nat) (e : TypeId) (ks : List PK) : Prop :=
  ∀ (w : World) (us vs : List Value), areKs ks us = true → areKs ks vs = true → (Op.equalIn dd e (chunkV P e us) (chunkV P e vs)).run P w = .ok (eqVs us vs) w
section
variable {P : Program} {w : World}
theorem run_chunk {m : Nat} {e : TypeId} {a : List PK} (hd : deepK P m e = some a) {xs : Array Value} {off : Nat} {ch : List Value} (hc : (xs.toList.drop off).take (P.cellsOf e) = ch) (h : areKs a ch = true) : (part e xs off).run P w = .ok (chunkV P e ch) w := by
  cases m with
  | zero => simp [deepK] at hd
  | succ m =>
    have one : P.plainKey e = true → a.length = 1 → (∀ u, chunkV P e [u] = u) → (part e xs off).run P w = .ok (chunkV P e ch) w := fun hp h1 h2 => by
      have hl := areKs_len h
      rw [h1] at hl
      obtain ⟨v, rfl⟩ := List.length_eq_one_iff.1 hl
      rw [h2]
      refine run_part_plain w hp ?_
      have : (xs.toList.drop off)[0]? = some v := by
        have := congrArg (fun l : List Value => l[0]?) hc
        simp only [List.getElem?_cons_zero] at this
        rw [List.getElem?_take] at this
        split at this
        · exact this
        · cases this
      simpa using this
    have agg : ∀ kd, P.underlying e = some kd → ((∃ n e', kd = .array n e') ∨ ∃ fs, kd = .struct fs) → (part e xs off).run P w = .ok (chunkV P e ch) w := fun kd hu hk => by
      obtain ⟨i, hi⟩ := _root_.Go.info_of_underlying hu
      have hx : xs.extract off (off + P.cellsOf e) = ch.toArray := by
        apply Array.ext'
        rw [Array.toList_extract, ← hc]
        simp [List.extract]
      rcases hk with ⟨n, e', rfl⟩ | ⟨fs, rfl⟩ <;> simp [part, isAgg, run_underlying hu, run_sizeOf w hi, chunkV, hu, hx]
    unfold deepK at hd
    split at hd
    · rename_i k hu
      cases hd
      exact one (by simp [Program.plainKey, hu]) rfl (fun u => by simp [chunkV, hu])
    · rename_i hu
      cases hd
      exact one (by simp [Program.plainKey, hu]) rfl (fun u => by simp [chunkV, hu])
    · rename_i fs hu; exact agg _ hu (.inr ⟨_, rfl⟩)
    · rename_i n e' hu; exact agg _ hu (.inl ⟨_, _, rfl⟩)
    · cases hd
theorem eqFields_deep {m dd : Nat} (IH : ∀ t a, deepK P m t = some a → EqD P dd t a) : ∀ (fs : List Field) (k : Nat) (ks : List PK) (xs ys : Array Value), dFs P (deepK P m) fs k = some ks → areKs ks (xs.toList.drop k) = true → areKs ks (ys.toList.drop k) = true →
    (Op.eqFields dd xs ys fs).run P w = .ok (eqVs (xs.toList.drop k) (ys.toList.drop k)) w
  | [], k, ks, xs, ys, h, hx, hy => by
    simp only [dFs, Option.some.injEq] at h
    subst h
    have h0 : ∀ l : List Value, areKs [] l = true → l = [] := fun l h => by cases l <;> simp_all [areKs]
    rw [h0 _ hx, h0 _ hy]
    simp [Op.eqFields, eqVs]
  | f :: fs, k, ks, xs, ys, h, hx, hy => by
    simp only [dFs] at h
    split at h <;> try cases h
    rename_i a b ha hb
    split at h <;> try cases h
    rename_i hc
    simp only [Bool.and_eq_true, bne_iff_ne, beq_iff_eq] at hc
    obtain ⟨⟨hn, ho⟩, hl⟩ := hc
    have x1 := areKs_app hx
    have y1 := areKs_app hy
    rw [hl, List.drop_drop] at x1 y1
    have px := run_chunk (w := w) ha (off := f.offset) (by rw [ho]) x1.1
    have py := run_chunk (w := w) ha (off := f.offset) (by rw [ho]) y1.1
    have he := IH _ _ ha w _ _ x1.1 y1.1
    have hr := eqFields_deep IH fs _ b xs ys hb x1.2 y1.2
    have lx := areKs_len hx
    have ly := areKs_len hy
    have e1 : eqVs (xs.toList.drop k) (ys.toList.drop k) = (eqVs ((xs.toList.drop k).take (P.cellsOf f.type)) ((ys.toList.drop k).take (P.cellsOf f.type)) && eqVs (xs.toList.drop (k + P.cellsOf f.type)) (ys.toList.drop (k + P.cellsOf f.type))) := by
      rw [← eqVs_app (by rw [areKs_len x1.1, areKs_len y1.1]) (by rw [areKs_len x1.2, areKs_len y1.2]), ← List.drop_drop, ← List.drop_drop, List.take_append_drop, List.take_append_drop]
    rw [e1]
    rw [Op.eqFields]
    simp only [if_pos hn, Sem.run_bind, px, py, he, Result.andThen_ok]
    cases hab : eqVs ((xs.toList.drop k).take (P.cellsOf f.type)) ((ys.toList.drop k).take (P.cellsOf f.type))
    · simp
    · simpa using hr
theorem eqItems_deep {m dd : Nat} {e : TypeId} {a : List PK} (ha : deepK P m e = some a) (hl : a.length = P.cellsOf e) (IH : EqD P dd e a) (xs ys : Array Value) : ∀ (n j : Nat), areKs (List.replicate n a).flatten (xs.toList.drop (j * P.cellsOf e)) = true → areKs (List.replicate n a).flatten (ys.toList.drop (j * P.cellsOf e)) = true →
    (Op.eqItems dd e (P.cellsOf e) xs ys (List.range' j n)).run P w = .ok (eqVs (xs.toList.drop (j * P.cellsOf e)) (ys.toList.drop (j * P.cellsOf e))) w
  | 0, j, hx, hy => by
    have h0 : ∀ l : List Value, areKs [] l = true → l = [] := fun l h => by cases l <;> simp_all [areKs]
    rw [h0 _ hx, h0 _ hy]
    simp [Op.eqItems, eqVs]
  | n + 1, j, hx, hy => by
    rw [List.replicate_succ, List.flatten_cons] at hx hy
    have x1 := areKs_app hx
    have y1 := areKs_app hy
    rw [hl, List.drop_drop] at x1 y1
    have px := run_chunk (w := w) ha (off := j * P.cellsOf e) rfl x1.1
    have py := run_chunk (w := w) ha (off := j * P.cellsOf e) rfl y1.1
    have he := IH w _ _ x1.1 y1.1
    have hj : j * P.cellsOf e + P.cellsOf e = (j + 1) * P.cellsOf e := by rw [Nat.add_mul, Nat.one_mul]
    rw [hj] at x1 y1
    have hr := eqItems_deep ha hl IH xs ys n (j + 1) x1.2 y1.2
    have e1 : eqVs (xs.toList.drop (j * P.cellsOf e)) (ys.toList.drop (j * P.cellsOf e)) = (eqVs ((xs.toList.drop (j * P.cellsOf e)).take (P.cellsOf e)) ((ys.toList.drop (j * P.cellsOf e)).take (P.cellsOf e)) && eqVs (xs.toList.drop ((j + 1) * P.cellsOf e)) (ys.toList.drop ((j + 1) * P.cellsOf e))) := by
      rw [← eqVs_app (by rw [areKs_len x1.1, areKs_len y1.1]) (by rw [areKs_len x1.2, areKs_len y1.2]), ← hj, ← List.drop_drop, ← List.drop_drop, List.take_append_drop, List.take_append_drop]
    rw [e1, List.range'_succ]
    rw [Op.eqItems]
    simp only [Sem.run_bind, px, py, he, Result.andThen_ok]
    cases hab : eqVs ((xs.toList.drop (j * P.cellsOf e)).take (P.cellsOf e)) ((ys.toList.drop (j * P.cellsOf e)).take (P.cellsOf e))
    · simp
    · simpa using hr
theorem equalIn_deep : ∀ (m d : Nat) (t : TypeId) (ks : List PK), deepK P m t = some ks → EqD P (d + m) t ks
  | 0, d, t, ks, h => by simp [deepK] at h
  | m + 1, d, t, ks, h => by
    intro w us vs hu hv
    unfold deepK at h
    split at h
    · rename_i k he
      cases h
      obtain ⟨u, rfl⟩ := List.length_eq_one_iff.1 (areKs_len hu)
      obtain ⟨v, rfl⟩ := List.length_eq_one_iff.1 (areKs_len hv)
      simp only [areKs, Bool.and_true] at hu hv
      cases u <;> simp [PK.is] at hu
      cases v <;> simp [PK.is] at hv
      subst hu hv
      simp only [chunkV, he, List.headD_cons]
      exact run_equalIn_int w (d + m) t _ k _ _ he
    · rename_i he
      cases h
      obtain ⟨u, rfl⟩ := List.length_eq_one_iff.1 (areKs_len hu)
      obtain ⟨v, rfl⟩ := List.length_eq_one_iff.1 (areKs_len hv)
      simp only [areKs, Bool.and_true] at hu hv
      cases u <;> simp [PK.is] at hu
      cases v <;> simp [PK.is] at hv
      simp only [chunkV, he, List.headD_cons]
      exact run_equalIn_bool' w (d + m) t _ _ he
    · rename_i fs he
      split at h
      · cases h
      · rename_i hs
        have hfo : P.fieldsOf t = fs := by simp [Program.fieldsOf, he]
        simp only [chunkV, he]
        rw [show d + (m + 1) = (d + m) + 1 from rfl, run_equalIn_struct w (d + m) t _ _ (by rw [hfo]; exact he) (by simpa using hs), hfo]
        have := eqFields_deep (w := w) (fun t a ha => equalIn_deep m d t a ha) fs.toList 0 ks us.toArray vs.toArray h (by simpa using hu) (by simpa using hv)
        simpa using this
    · rename_i n e he
      split at h <;> try cases h
      rename_i a ha
      split at h <;> try cases h
      rename_i hl
      obtain ⟨i, hi⟩ : ∃ i, P.info? e = some i := by
        cases m with
        | zero => simp [deepK] at ha
        | succ m =>
          cases hue : P.underlying e with
          | none => simp [deepK, hue] at ha
          | some kd => exact _root_.Go.info_of_underlying hue
      simp only [chunkV, he]
      rw [show d + (m + 1) = (d + m) + 1 from rfl, run_equalIn_array w (d + m) _ _ he hi, List.range_eq_range']
      have := eqItems_deep (w := w) ha (by simpa using hl) (equalIn_deep m d e a ha) us.toArray vs.toArray n 0 (by simpa using hu) (by simpa using hv)
      simpa using this
    · cases h
/-- WHAT STRUCTS COME TO WHERE THEY ARE HELD AGAINST ONE ANOTHER. -/
theorem eqAgg_deep {t : TypeId} {fs : Array Field} (hu : P.underlying t = some (.struct fs)) (hg : P.eqGuardType P.depth t = false) {ks : List PK} (hk : deepK P 9 t = some ks) {xs ys : List Value}
    (hx : areKs ks xs = true) (hy : areKs ks ys = true) (op : BinOp) (K : T → Prop) :
    eqAgg P op t (xs.map D.v) (ys.map D.v) K = match op with
      | .eql => K (.one (.v (.bool (eqVs xs ys))))
      | .neq => K (.one (.v (.bool (!eqVs xs ys))))
      | _ => False := by
  have run : ∀ w : World, (Op.equal t (.agg xs.toArray) (.agg ys.toArray)).run P w = .ok (eqVs xs ys) w := by
    intro w
    have := equalIn_deep 9 9991 t ks hk w xs ys hx hy
    simp only [chunkV, hu] at this
    exact this
  have main : EqTy P t (xs.map D.v) (ys.map D.v) (eqVs xs ys) := by
    refine ⟨hg, fun w I xs' ys' h1 h2 => ?_⟩
    rw [repL_v h1, repL_v h2]
    exact run w
  have uniq : ∀ β, EqTy P t (xs.map D.v) (ys.map D.v) β → β = eqVs xs ys := by
    rintro β ⟨_, h⟩
    have h1 := h default (fun _ => True) xs ys (repL_of (areKs_one hx)) (repL_of (areKs_one hy))
    rw [run default] at h1
    simpa using h1.symm
  unfold eqAgg
  refine propext ⟨?_, ?_⟩
  · rintro ⟨β, h1, h2⟩
    rw [uniq β h1] at h2
    exact h2
  · intro h
    exact ⟨_, main, h⟩
end
end Go.Ax
