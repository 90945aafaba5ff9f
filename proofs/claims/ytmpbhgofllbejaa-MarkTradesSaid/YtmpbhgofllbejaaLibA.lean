/- Abstract data, what they stand for in memory, and the state of a frame. -/
import Derived.Orders
import Derived.OwnWalk
import Derived.Laws.OwnMore
import Derived.Laws.Unary
import Derived.Laws.Bits
import Derived.Laws.Slices
import Derived.Laws.Entries
import Derived.Laws.StructEq
set_option linter.unusedVariables false
set_option linter.unusedSimpArgs false
set_option linter.unusedVariables false
set_option linter.unusedSimpArgs false
namespace Go.Ax
open Go

/-- Plain data: one cell. 'v': a value that is no list; 'l': a list that nobody writes any more: its rows, each a row of cells; 'p': a pointer to cells that nobody writes any more; 'c': a function with what it has captured. -/
inductive D where
  | v (x : Value)
  | l (rows : List (List D))
  | p (cells : List D)
  | c (f : FuncId) (caps : List D)
instance : Inhabited D := ⟨.v undef⟩

/-- What a value stands for; the blocks of its lists are in I. -/
inductive RepD (w : World) (I : Nat → Prop) : D → Value → Prop where
  | v (x : Value) (h : x.oneCell' = true) : RepD w I (.v x) x
  | l (rows : List (List D)) (sz : Nat) (a : Option Addr) (cap : Nat) (vals : Nat → Nat → Value)
      (hl : ∀ r ∈ rows, r.length = sz) (hc : rows.length ≤ cap) (hm : cap ≤ maxLen)
      (ha : rows ≠ [] → ∃ b o, a = some ⟨b, o, none⟩ ∧ I b ∧ ∀ i j, i < rows.length → j < sz → w.cell? ⟨b, o + i * sz + j, none⟩ = some (vals i j))
      (hv : ∀ i r, rows[i]? = some r → ∀ j d, r[j]? = some d → RepD w I d (vals i j)) :
      RepD w I (.l rows) (.slice a rows.length cap)
  | p (cells : List D) (b o : Nat) (vals : Nat → Value) (hI : cells ≠ [] → I b) (ha : ∀ j, j < cells.length → w.cell? ⟨b, o + j, none⟩ = some (vals j))
      (hv : ∀ j d, cells[j]? = some d → RepD w I d (vals j)) : RepD w I (.p cells) (.pointer (some ⟨b, o, none⟩))
  | c (f : FuncId) (caps : List D) (ptrs : Array Value) (hs : caps.length = ptrs.size) (hv : ∀ j d, caps[j]? = some d → RepD w I d (ptrs.getD j undef)) : RepD w I (.c f caps) (.func (.func f) #[] ptrs)

theorem RepD.one {w : World} {I : Nat → Prop} {d : D} {x : Value} (h : RepD w I d x) : x.oneCell' = true := by
  cases h with
  | v x h => exact h
  | l => rfl
  | p => rfl
  | c => rfl

theorem RepD.mono {w w' : World} {I I' : Nat → Prop} (hw : ∀ b, I b → w'.heap[b]? = w.heap[b]?) (hI : ∀ b, I b → I' b) {d : D} {x : Value} (h : RepD w I d x) : RepD w' I' d x := by
  induction h with
  | v x h => exact .v x h
  | l rows sz a cap vals hl hc hm ha hv ih =>
    refine .l rows sz a cap vals hl hc hm (fun hn => ?_) (fun i r hr j d hd => ih i r hr j d hd)
    obtain ⟨b, o, h1, h2, h3⟩ := ha hn
    exact ⟨b, o, h1, hI b h2, fun i j hi hj => (World.cell?_of_block (w := w) (hw b h2)).trans (h3 i j hi hj)⟩
  | p cells b o vals hIb ha hv ih => exact .p cells b o vals (fun hn => hI b (hIb hn)) (fun j hj => (World.cell?_of_block (w := w) (hw b (hIb fun e => by subst e; exact absurd hj (Nat.not_lt_zero j)))).trans (ha j hj)) ih
  | c f caps ptrs hs hv ih => exact .c f caps ptrs hs ih

theorem RepD.v_inv {w : World} {I : Nat → Prop} {x y : Value} (h : RepD w I (.v x) y) : y = x ∧ x.oneCell' = true := by
  cases h with
  | v x h => exact ⟨rfl, h⟩

theorem RepD.l_nil (w : World) (I : Nat → Prop) (a : Option Addr) (cap : Nat) (hm : cap ≤ maxLen) : RepD w I (.l []) (.slice a 0 cap) :=
  RepD.l [] 0 a cap (fun _ _ => undef) (by simp) (by simp) hm (by simp) (by simp)

/-- Cells in a row. -/
def RepL (w : World) (I : Nat → Prop) (ds : List D) (vs : List Value) : Prop :=
  ds.length = vs.length ∧ ∀ (j : Nat) (d : D) (v : Value), ds[j]? = some d → vs[j]? = some v → RepD w I d v

theorem RepL.mono {w w' : World} {I I' : Nat → Prop} (hw : ∀ b, I b → w'.heap[b]? = w.heap[b]?) (hI : ∀ b, I b → I' b) {ds : List D} {vs : List Value} (h : RepL w I ds vs) : RepL w' I' ds vs :=
  ⟨h.1, fun j d v h1 h2 => (h.2 j d v h1 h2).mono hw hI⟩
theorem RepL.nil (w : World) (I : Nat → Prop) : RepL w I [] [] := ⟨rfl, by simp⟩
theorem RepL.cons {w : World} {I : Nat → Prop} {d : D} {v : Value} {ds : List D} {vs : List Value} (h : RepD w I d v) (hs : RepL w I ds vs) : RepL w I (d :: ds) (v :: vs) := by
  refine ⟨by simp [hs.1], fun j e u h1 h2 => ?_⟩
  cases j with
  | zero => simp at h1 h2; subst h1; subst h2; exact h
  | succ j => simp at h1 h2; exact hs.2 j e u h1 h2
theorem RepL.cons_inv {w : World} {I : Nat → Prop} {d : D} {ds : List D} {vs : List Value} (h : RepL w I (d :: ds) vs) : ∃ v vs', vs = v :: vs' ∧ RepD w I d v ∧ RepL w I ds vs' := by
  cases vs with
  | nil => exact absurd h.1 (by simp)
  | cons v vs' => exact ⟨v, vs', rfl, h.2 0 d v rfl rfl, by have := h.1; simpa using this, fun j e u h1 h2 => h.2 (j + 1) e u (by simpa using h1) (by simpa using h2)⟩
theorem RepL.nil_inv {w : World} {I : Nat → Prop} {vs : List Value} (h : RepL w I [] vs) : vs = [] := List.eq_nil_of_length_eq_zero h.1.symm
theorem RepL.append {w : World} {I : Nat → Prop} {ds es : List D} {vs us : List Value} (h : RepL w I ds vs) (k : RepL w I es us) : RepL w I (ds ++ es) (vs ++ us) := by
  refine ⟨by simp [h.1, k.1], fun j d v h1 h2 => ?_⟩
  rcases Nat.lt_or_ge j ds.length with hj | hj
  · rw [List.getElem?_append_left hj] at h1
    rw [List.getElem?_append_left (by rw [← h.1]; exact hj)] at h2
    exact h.2 j d v h1 h2
  · rw [List.getElem?_append_right hj] at h1
    rw [List.getElem?_append_right (by rw [← h.1]; exact hj), ← h.1] at h2
    exact k.2 _ d v h1 h2
theorem RepL.append_inv {w : World} {I : Nat → Prop} {ds es : List D} {vs : List Value} (h : RepL w I (ds ++ es) vs) : ∃ us ts, vs = us ++ ts ∧ RepL w I ds us ∧ RepL w I es ts := by
  induction ds generalizing vs with
  | nil => exact ⟨[], vs, rfl, RepL.nil _ _, h⟩
  | cons d ds ih =>
    obtain ⟨v, vs', rfl, hd, hs⟩ := h.cons_inv
    obtain ⟨us, ts, rfl, h1, h2⟩ := ih hs
    exact ⟨v :: us, ts, rfl, RepL.cons hd h1, h2⟩
theorem RepL.set {w : World} {I : Nat → Prop} {ds : List D} {vs : List Value} (h : RepL w I ds vs) (j : Nat) {d : D} {v : Value} (hd : RepD w I d v) : RepL w I (ds.set j d) (vs.set j v) := by
  refine ⟨by simp [h.1], fun i e u h1 h2 => ?_⟩
  rw [List.getElem?_set] at h1 h2
  split at h1
  · rename_i hij
    subst hij
    simp only [if_true] at h2
    split at h1
    · rename_i hl
      rw [if_pos (by rw [← h.1]; exact hl)] at h2
      simp at h1 h2; subst h1; subst h2; exact hd
    · cases h1
  · rename_i hij
    rw [if_neg hij] at h2
    exact h.2 i e u h1 h2
theorem RepL.take {w : World} {I : Nat → Prop} {ds : List D} {vs : List Value} (h : RepL w I ds vs) (n : Nat) : RepL w I (ds.take n) (vs.take n) := by
  refine ⟨by simp [h.1], fun j d v h1 h2 => ?_⟩
  rw [List.getElem?_take] at h1 h2
  split at h1
  · rename_i hj
    rw [if_pos hj] at h2
    exact h.2 j d v h1 h2
  · cases h1
theorem RepL.drop {w : World} {I : Nat → Prop} {ds : List D} {vs : List Value} (h : RepL w I ds vs) (n : Nat) : RepL w I (ds.drop n) (vs.drop n) := by
  refine ⟨by simp [h.1], fun j d v h1 h2 => ?_⟩
  rw [List.getElem?_drop] at h1 h2
  exact h.2 _ d v h1 h2
theorem RepL.one {w : World} {I : Nat → Prop} {ds : List D} {vs : List Value} (h : RepL w I ds vs) : ∀ u ∈ vs, u.oneCell' = true := by
  intro u hu
  obtain ⟨j, hj, rfl⟩ := List.getElem_of_mem hu
  exact (h.2 j (ds[j]'(by rw [h.1]; exact hj)) _ (List.getElem?_eq_getElem _) (List.getElem?_eq_getElem _)).one
theorem RepL.at {w : World} {I : Nat → Prop} {ds : List D} {vs : List Value} (h : RepL w I ds vs) {j : Nat} {d : D} (hd : ds[j]? = some d) : ∃ v, vs[j]? = some v ∧ RepD w I d v := by
  have hj : j < vs.length := by rw [← h.1]; exact (List.getElem?_eq_some_iff.1 hd).1
  exact ⟨vs[j], List.getElem?_eq_getElem hj, h.2 j d _ hd (List.getElem?_eq_getElem hj)⟩

/-- A list that a frame owns: its rows, each of sz cells, in a block that nobody else writes. (sz is 0: it is nil.) -/
def OwnL (w : World) (I : Nat → Prop) (x : Value) (sz : Nat) (rows : List (List D)) : Prop :=
  (x = .slice none 0 0 ∧ rows = []) ∨ (0 < sz ∧ ∃ e xs, w.ownsRow 0 e sz x rows.length xs ∧ (∀ r ∈ rows, r.length = sz) ∧ RepL w I rows.flatten xs)

theorem OwnL.nil (w : World) (I : Nat → Prop) (sz : Nat) : OwnL w I (.slice none 0 0) sz [] := .inl ⟨rfl, rfl⟩
theorem OwnL.mono {w w' : World} {I I' : Nat → Prop} (hw : ∀ b, I b → w'.heap[b]? = w.heap[b]?) (hI : ∀ b, I b → I' b) {x : Value} {sz : Nat} {rows : List (List D)} (ho : ∀ b, x.ownBlock = some b → w'.heap[b]? = w.heap[b]?) (h : OwnL w I x sz rows) : OwnL w' I' x sz rows := by
  rcases h with h | ⟨h0, e, xs, h1, h2, h3⟩
  · exact .inl h
  refine .inr ⟨h0, e, xs, ⟨h1.1, ?_⟩, h2, h3.mono hw hI⟩
  rcases h1.2 with hn | ⟨g, cap, cur, rfl, hb, hgg, rest⟩
  · exact .inl hn
  · exact .inr ⟨g, cap, cur, rfl, hb, (ho g rfl).trans hgg, rest⟩
theorem OwnL.slice {w : World} {I : Nat → Prop} {x : Value} {sz : Nat} {rows : List (List D)} (h : OwnL w I x sz rows) : ∃ a c, x = .slice a rows.length c := by
  rcases h with ⟨rfl, rfl⟩ | ⟨h0, e, xs, h1, _, _⟩
  · exact ⟨none, 0, rfl⟩
  rcases h1.2 with ⟨rfl, hn⟩ | ⟨g, cap, cur, rfl, _⟩
  · exact ⟨none, 0, by rw [hn]⟩
  · exact ⟨_, cap, rfl⟩
theorem OwnL.one {w : World} {I : Nat → Prop} {x : Value} {sz : Nat} {rows : List (List D)} (h : OwnL w I x sz rows) : x.oneCell' = true := by
  obtain ⟨a, c, rfl⟩ := h.slice
  rfl
theorem OwnL.lt {w : World} {I : Nat → Prop} {x : Value} {sz : Nat} {rows : List (List D)} (h : OwnL w I x sz rows) {b : Nat} (hb : x.ownBlock = some b) : b < w.heap.size := by
  rcases h with ⟨rfl, rfl⟩ | ⟨h0, e, xs, h1, _, _⟩
  · cases hb
  · exact (h1.lt b hb).2

theorem getElem?_flatten {α : Type} {rows : List (List α)} {sz : Nat} (h : ∀ r ∈ rows, r.length = sz) {i j : Nat} (hi : i < rows.length) (hj : j < sz) : rows.flatten[i * sz + j]? = (rows[i]?).bind (·[j]?) := by
  induction rows generalizing i with
  | nil => simp at hi
  | cons r rows ih =>
    have hr : r.length = sz := h r (by simp)
    cases i with
    | zero => simp [List.getElem?_append_left (show j < r.length by omega)]
    | succ i =>
      have e : (i + 1) * sz + j - r.length = i * sz + j := by rw [hr, Nat.succ_mul]; omega
      rw [List.flatten_cons, List.getElem?_append_right (by rw [hr, Nat.succ_mul]; omega), e, ih (fun r hr => h r (by simp [hr])) (by simpa using hi)]
      simp

theorem length_flatten {α : Type} {rows : List (List α)} {sz : Nat} (h : ∀ r ∈ rows, r.length = sz) : rows.flatten.length = rows.length * sz := by
  induction rows with
  | nil => simp
  | cons r rows ih => simp [ih (fun r hr => h r (by simp [hr])), h r (by simp), Nat.succ_mul, Nat.add_comm]

/-- What is owned, seen as data: its block counts as one that nobody writes. -/
theorem OwnL.data {w : World} {I I' : Nat → Prop} {x : Value} {sz : Nat} {rows : List (List D)} (h : OwnL w I x sz rows) (hI : ∀ b, I b → I' b) (hx : ∀ b, x.ownBlock = some b → I' b) : RepD w I' (.l rows) x := by
  rcases h with ⟨rfl, rfl⟩ | ⟨h0, e, xs, h1, h2, h3⟩
  · exact RepD.l_nil w I' none 0 (by simp)
  rcases h1.2 with ⟨rfl, hn⟩ | ⟨g, cap, cur, rfl, _, hgg, hcap, hmax, hcs, htake⟩
  · obtain rfl : rows = [] := List.eq_nil_of_length_eq_zero hn
    exact RepD.l_nil w I' none 0 (by simp)
  · refine .l rows sz _ cap (fun i j => xs.getD (i * sz + j) undef) h2 hcap hmax (fun _ => ⟨g, 0, rfl, hx g rfl, fun i j hi hj => ?_⟩) (fun i r hr j d hd => ?_)
    · have hlt : i * sz + j < rows.length * sz := by
        calc i * sz + j < i * sz + sz := by omega
          _ = (i + 1) * sz := by rw [Nat.succ_mul]
          _ ≤ rows.length * sz := Nat.mul_le_mul_right _ hi
      have hlt' : i * sz + j < xs.length := by rw [h1.1]; exact hlt
      rw [Nat.zero_add, h1.cellAt _ hlt]
      simp [List.getD_eq_getElem?_getD, List.getElem?_eq_getElem hlt']
    · have hi : i < rows.length := (List.getElem?_eq_some_iff.1 hr).1
      have hj : j < sz := by rw [← h2 r (List.mem_of_getElem? hr)]; exact (List.getElem?_eq_some_iff.1 hd).1
      obtain ⟨v, hv, hrep⟩ := h3.at (j := i * sz + j) (d := d) (by rw [getElem?_flatten h2 hi hj, hr]; simpa using hd)
      have : xs.getD (i * sz + j) undef = v := by simp [List.getD_eq_getElem?_getD, hv]
      rw [this]
      exact hrep.mono (fun _ _ => rfl) hI

end Go.Ax

/- The state of a frame: what each slot stands for, who owns which block, and what may have turned in memory. -/
set_option linter.unusedVariables false
set_option linter.unusedSimpArgs false
namespace Go.Ax
open Go

inductive Leaf where
  | d (x : D)
  | own (sz : Nat) (rows : List (List D))
  | hole
inductive Comp where
  | one (l : Leaf)
  | agg (ds : List D)
  | bx (ds : List D)
/-- What a slot holds. -/
inductive T where
  | none
  | one (x : D)
  | agg (ds : List D)
  | own (sz : Nat) (rows : List (List D))
  | tup (cs : List Comp)
  | box (cells : List Leaf)
  | ref (y : Nat)
  | bref (y off : Nat)
  | el (cells : List D)
  | oref (y sz i off : Nat)
  | cref (y off : Nat)
instance : Inhabited T := ⟨.none⟩

def T.isBox : T → Bool
  | .box _ => true
  | _ => false
def T.target : T → Option Nat
  | .ref y => some y
  | .bref y _ => some y
  | .oref y _ _ _ => some y
  | .cref y _ => some y
  | .none => Option.none
  | .one _ => Option.none
  | .agg _ => Option.none
  | .own _ _ => Option.none
  | .tup _ => Option.none
  | .box _ => Option.none
  | .el _ => Option.none

structure S where
  n : Nat
  ts : List (Nat × T)
  vs : List (Nat × T)

def look : List (Nat × T) → Nat → Option T
  | [], _ => Option.none
  | (k, t) :: r, x => if k = x then some t else look r x
def setv : List (Nat × T) → Nat → T → List (Nat × T)
  | [], _, _ => []
  | (k, u) :: r, x, t => if k = x then (k, t) :: r else (k, u) :: setv r x t
def kill (x : Nat) : List (Nat × T) → List (Nat × T)
  | [] => []
  | (k, t) :: r => (k, if t.target = some x then T.none else t) :: kill x r

def S.isVar (s : S) (x : Nat) : Bool := (look s.vs x).isSome
def S.get (s : S) (x : Nat) : T := (look s.ts x).getD ((look s.vs x).getD .none)
def S.putT (s : S) (x : Nat) (t : T) : S := { s with ts := (x, t) :: s.ts }
def S.putV (s : S) (x : Nat) (t : T) : S := { s with ts := kill x s.ts, vs := setv s.vs x t }
def S.upd (s : S) (x : Nat) (t : T) : S := { s with vs := setv s.vs x t }

theorem look_setv (l : List (Nat × T)) (x : Nat) (t : T) (y : Nat) : look (setv l x t) y = if x = y then (look l y).map (fun _ => t) else look l y := by
  induction l with
  | nil => simp [look, setv]
  | cons p l ih =>
    obtain ⟨k, u⟩ := p
    by_cases h : k = x
    · subst h
      simp only [setv, if_true, look]
      by_cases h' : k = y
      · simp [h']
      · simp [h']
    · simp only [setv, if_neg h, look, ih]
      by_cases h' : k = y
      · subst h'
        have : ¬ x = k := fun e => h e.symm
        simp [this]
      · simp [h']
theorem look_kill (x : Nat) (l : List (Nat × T)) (y : Nat) : look (kill x l) y = (look l y).map fun t => if t.target = some x then T.none else t := by
  induction l with
  | nil => simp [look, kill]
  | cons p l ih =>
    obtain ⟨k, u⟩ := p
    simp only [kill, look, ih]
    split <;> simp

/-! ### In memory -/
def val (ts : Array Value) (x : Nat) : Value := ts.getD x undef
theorem val_set (ts : Array Value) (x : Nat) (v : Value) (h : x < ts.size) (y : Nat) : val (ts.setIfInBounds x v) y = if x = y then v else val ts y := by
  unfold val
  rw [Array.getD_eq_getD_getElem?, Array.getD_eq_getD_getElem?, Array.getElem?_setIfInBounds]
  split
  · rename_i hxy; subst hxy; simp [h]
  · rfl

def ptrBlock : Value → Option Nat
  | .pointer (some ⟨b, 0, Option.none⟩) => some b
  | _ => Option.none

def RepLf (w : World) (I : Nat → Prop) (v : Value) : Leaf → Prop
  | .d d => RepD w I d v
  | .own sz rows => OwnL w I v sz rows
  | .hole => True
def RepC (w : World) (I : Nat → Prop) (v : Value) : Comp → Prop
  | .one lf => RepLf w I v lf
  | .agg ds => ∃ cs, v = .agg cs ∧ RepL w I ds cs.toList
  | .bx _ => True
/-- What a value stands for; ρ: the values of the slots to which it may refer. -/
def RepV (w : World) (I : Nat → Prop) (ρ : Nat → Value) (u : Value) : T → Prop
  | .none => True
  | .one d => RepD w I d u
  | .agg ds => ∃ cs, u = .agg cs ∧ RepL w I ds cs.toList
  | .own sz rows => OwnL w I u sz rows
  | .tup cs => ∃ vs, u = .tuple vs ∧ vs.size = cs.length ∧ ∀ (j : Nat) (c : Comp), cs[j]? = some c → RepC w I (vs.getD j undef) c
  | .box cells => ∃ b e cs, u = .pointer (some ⟨b, 0, Option.none⟩) ∧ w.heap[b]? = some (.cells cs e (0, 0)) ∧ cs.size = cells.length ∧
      ∀ (j : Nat) (lf : Leaf), cells[j]? = some lf → RepLf w I (cs.getD j undef) lf
  | .ref y => u = ρ y
  | .bref y off => ∃ b, ρ y = .pointer (some ⟨b, 0, Option.none⟩) ∧ u = .pointer (some ⟨b, off, Option.none⟩)
  | .el cells => ∃ b o vs, u = .pointer (some ⟨b, o, Option.none⟩) ∧ (cells ≠ [] → I b) ∧ RepL w I cells vs ∧ ∀ (j : Nat) (v : Value), vs[j]? = some v → w.cell? ⟨b, o + j, Option.none⟩ = some v
  | .oref y sz i off => ∃ b n c, ρ y = .slice (some ⟨b, 0, Option.none⟩) n c ∧ u = .pointer (some ⟨b, i * sz + off, Option.none⟩)
  | .cref y off => ∃ b, ρ y = .pointer (some ⟨b, 0, Option.none⟩) ∧ w.cell? ⟨b, off, Option.none⟩ = some u
def RepT (w : World) (I : Nat → Prop) (ts : Array Value) (x : Nat) (t : T) : Prop := RepV w I (val ts) (val ts x) t

/-- The blocks that a slot owns, by places. -/
def T.blocks (w : World) (v : Value) (t : T) (i : Nat) : Option Nat :=
  match t with
  | .own _ _ => if i = 0 then v.ownBlock else Option.none
  | .box cells => if i = 0 then ptrBlock v else
      match cells[i - 1]?, ptrBlock v with
      | some (.own _ _), some b => (w.cell? ⟨b, i - 1, Option.none⟩).bind Value.ownBlock
      | _, _ => Option.none
  | .tup cs => match cs[i]?, v with
      | some (.one (.own _ _)), .tuple vs => (vs.getD i undef).ownBlock
      | _, _ => Option.none
  | _ => Option.none

/-- What may have turned from w to w': new blocks, and those of ext. -/
structure Fr (ext : Nat → Prop) (w w' : World) : Prop where
  os : w'.os = w.os
  tape : w'.tape = w.tape
  output : w'.output = w.output
  size : w.heap.size ≤ w'.heap.size
  block : ∀ b, b < w.heap.size → ¬ ext b → w'.heap[b]? = w.heap[b]?
def noExt : Nat → Prop := fun _ => False
theorem Fr.refl (ext : Nat → Prop) (w : World) : Fr ext w w := ⟨rfl, rfl, rfl, Nat.le_refl _, fun _ _ _ => rfl⟩
theorem Fr.trans {ext : Nat → Prop} {a b c : World} (h : Fr ext a b) (k : Fr (fun i => ext i ∨ a.heap.size ≤ i) b c) : Fr ext a c :=
  ⟨k.os.trans h.os, k.tape.trans h.tape, k.output.trans h.output, Nat.le_trans h.size k.size, fun i hi he => (k.block i (Nat.lt_of_lt_of_le hi h.size) (fun e => e.elim he (fun e => by omega))).trans (h.block i hi he)⟩
theorem Fr.mono {ext ext' : Nat → Prop} {a b : World} (h : Fr ext a b) (he : ∀ i, i < a.heap.size → ext i → ext' i) : Fr ext' a b :=
  ⟨h.os, h.tape, h.output, h.size, fun i hi hx => h.block i hi fun e => hx (he i hi e)⟩
theorem Fr.of_grown {w w' : World} (h : w.grownBy w' Option.none) : Fr noExt w w' := ⟨h.os, h.tape, h.output, h.size, fun b hb _ => h.block b hb (by simp)⟩
theorem Fr.alloc (w : World) (o : Obj) : Fr noExt w (w.alloc o) := Fr.of_grown (World.grownBy_alloc w o Option.none)
theorem Fr.drew (w : World) : Fr noExt w w.drew := ⟨rfl, rfl, rfl, Nat.le_refl _, fun _ _ _ => rfl⟩

/-- A block that the function may write: a new one, or one that it was handed. -/
def Mine (w0 : World) (ext : Nat → Prop) (b : Nat) : Prop := w0.heap.size ≤ b ∨ ext b
structure Inv (w0 : World) (ext I : Nat → Prop) (s : S) (ts : Array Value) (w : World) : Prop where
  size : ts.size = s.n
  rep : ∀ x, RepT w I ts x (s.get x)
  inj : ∀ x i y j b, (s.get x).blocks w (val ts x) i = some b → (s.get y).blocks w (val ts y) j = some b → x = y ∧ i = j
  away : ∀ x i b, (s.get x).blocks w (val ts x) i = some b → ¬ I b ∧ b < w.heap.size ∧ Mine w0 ext b
  Ilt : ∀ b, I b → b < w.heap.size
  tgt : ∀ x y, (s.get x).target = some y → s.isVar y = true
  vtgt : ∀ x, s.isVar x = true → look s.ts x = Option.none ∧ (s.get x).target = Option.none
  fr : Fr ext w0 w

theorem cell_world {w w' : World} {b : Nat} (h : w'.heap[b]? = w.heap[b]?) (o : Nat) : w'.cell? ⟨b, o, Option.none⟩ = w.cell? ⟨b, o, Option.none⟩ := World.cell?_of_block (w := w) h

theorem RepLf.mono {w w' : World} {I I' : Nat → Prop} (hw : ∀ b, I b → w'.heap[b]? = w.heap[b]?) (hI : ∀ b, I b → I' b) {v : Value} {lf : Leaf}
    (ho : ∀ sz rows, lf = .own sz rows → ∀ b, v.ownBlock = some b → w'.heap[b]? = w.heap[b]?) (h : RepLf w I v lf) : RepLf w' I' v lf := by
  cases lf with
  | d d => exact RepD.mono hw hI h
  | own sz rows => exact OwnL.mono hw hI (ho sz rows rfl) h
  | hole => trivial

/-- A slot's meaning, when blocks that it doesn't need turn. -/
theorem RepV.mono {w w' : World} {I I' : Nat → Prop} {ρ : Nat → Value} {u : Value} {t : T} (hw : ∀ b, I b → w'.heap[b]? = w.heap[b]?) (hI : ∀ b, I b → I' b)
    (ho : ∀ i b, t.blocks w u i = some b → w'.heap[b]? = w.heap[b]?) (hc : ∀ y off b, t = .cref y off → ρ y = .pointer (some ⟨b, 0, Option.none⟩) → w'.heap[b]? = w.heap[b]?) (h : RepV w I ρ u t) : RepV w' I' ρ u t := by
  cases t with
  | none => trivial
  | one d => exact RepD.mono hw hI h
  | agg ds => obtain ⟨cs, h1, h2⟩ := h; exact ⟨cs, h1, h2.mono hw hI⟩
  | own sz rows => exact OwnL.mono hw hI (fun b hb => ho 0 b (by simp [T.blocks, hb])) h
  | tup cs =>
    obtain ⟨vs, h1, h2, h3⟩ := h
    refine ⟨vs, h1, h2, fun j c hc => ?_⟩
    have hr := h3 j c hc
    cases c with
    | one lf => exact RepLf.mono hw hI (fun _ rows e b hb => ho j b (by subst e; simpa [T.blocks, hc, h1] using hb)) hr
    | agg ds => obtain ⟨cs', e1, e2⟩ := hr; exact ⟨cs', e1, e2.mono hw hI⟩
    | bx ds => trivial
  | box cells =>
    obtain ⟨b, e, cs, h1, h2, h3, h4⟩ := h
    have hb : w'.heap[b]? = w.heap[b]? := ho 0 b (by simp [T.blocks, h1, ptrBlock])
    refine ⟨b, e, cs, h1, hb.trans h2, h3, fun j lf hj => ?_⟩
    refine RepLf.mono hw hI (fun _ rows el b' hb' => ho (j + 1) b' ?_) (h4 j lf hj)
    subst el
    have hjs : j < cs.size := by rw [h3]; exact (List.getElem?_eq_some_iff.1 hj).1
    have hcell : w.cell? ⟨b, j, Option.none⟩ = some (cs.getD j undef) := by
      simp [World.cell?, h2, Array.getD_eq_getD_getElem?, Array.getElem?_eq_getElem hjs]
    simpa [T.blocks, hj, h1, ptrBlock, hcell] using hb'
  | ref y => exact h
  | bref y off => exact h
  | el cells =>
    obtain ⟨b, o, vs, h1, h2, h3, h4⟩ := h
    refine ⟨b, o, vs, h1, fun hn => hI b (h2 hn), h3.mono hw hI, fun j v hj => ?_⟩
    have hn : cells ≠ [] := by rintro rfl; obtain rfl := h3.nil_inv; simp at hj
    rw [cell_world (hw b (h2 hn))]
    exact h4 j v hj
  | oref y sz i off => exact h
  | cref y off =>
    obtain ⟨b, h1, h2⟩ := h
    exact ⟨b, h1, (cell_world (hc y off b rfl h1) off).trans h2⟩

/-- The blocks that a slot owns stay the same ones. -/
theorem T.blocks_world {w w' : World} {v : Value} {t : T} (ho : ∀ b, t.blocks w v 0 = some b → w'.heap[b]? = w.heap[b]?) (i : Nat) : t.blocks w' v i = t.blocks w v i := by
  cases t with
  | box cells =>
    unfold T.blocks
    dsimp only
    split
    · rfl
    · cases hb : ptrBlock v with
      | none => simp
      | some b =>
        have hc := cell_world (ho b (by simp [T.blocks, hb])) (i - 1)
        cases cells[i - 1]? with
        | none => rfl
        | some lf => cases lf <;> first | rfl | exact congrArg (fun z => Option.bind z Value.ownBlock) hc
  | _ => rfl

/-- All old blocks are as they were. -/
theorem Inv.grow {w0 w w' : World} {ext I : Nat → Prop} {s : S} {ts : Array Value} (h : Inv w0 ext I s ts w) (hw : Fr noExt w w') : Inv w0 ext I s ts w' := by
  have hb : ∀ b, b < w.heap.size → w'.heap[b]? = w.heap[b]? := fun b hb => hw.block b hb (fun e => e)
  have hbl : ∀ x i, (s.get x).blocks w' (val ts x) i = (s.get x).blocks w (val ts x) i := fun x i => T.blocks_world (fun b e => hb b (h.away x 0 b e).2.1) i
  refine ⟨h.size, fun x => ?_, fun x i y j b e1 e2 => ?_, fun x i b e => ?_, fun b e => Nat.lt_of_lt_of_le (h.Ilt b e) hw.size, h.tgt, h.vtgt, h.fr.trans (hw.mono fun _ _ e => e.elim)⟩
  · refine RepV.mono (fun b e => hb b (h.Ilt b e)) (fun _ e => e) (fun i b e => hb b (h.away x i b e).2.1) (fun y off b e1 e2 => ?_) (h.rep x)
    have hr := h.rep x
    rw [e1] at hr
    obtain ⟨b', h1, h2⟩ := hr
    rw [h1] at e2
    simp only [Value.pointer.injEq, Option.some.injEq, Addr.mk.injEq, and_true] at e2
    subst e2
    exact hb b' (World.block_lt_of_cell? w _ h2)
  · rw [hbl] at e1 e2
    exact h.inj x i y j b e1 e2
  · rw [hbl] at e
    obtain ⟨e1, e2, e3⟩ := h.away x i b e
    exact ⟨e1, Nat.lt_of_lt_of_le e2 hw.size, e3⟩

/-- Less may be said of a slot. -/
theorem Inv.weaken {w0 w : World} {ext I : Nat → Prop} {s s' : S} {ts : Array Value} (h : Inv w0 ext I s ts w) (hn : s'.n = s.n) (hg : ∀ x, s'.get x = s.get x ∨ s'.get x = .none)
    (hv : ∀ x, s'.isVar x = s.isVar x) (ht : ∀ x, s.isVar x = true → look s'.ts x = Option.none) : Inv w0 ext I s' ts w := by
  have hbl : ∀ x i b, (s'.get x).blocks w (val ts x) i = some b → (s.get x).blocks w (val ts x) i = some b := fun x i b e => by
    rcases hg x with hx | hx <;> rw [hx] at e
    · exact e
    · simp [T.blocks] at e
  refine ⟨h.size.trans hn.symm, fun x => ?_, fun x i y j b e1 e2 => h.inj x i y j b (hbl _ _ _ e1) (hbl _ _ _ e2), fun x i b e => ?_, h.Ilt, fun x y e => ?_, fun x e => ⟨ht x (by rw [← hv]; exact e), ?_⟩, h.fr⟩
  · rcases hg x with hx | hx <;> rw [hx]
    · exact h.rep x
    · trivial
  · rcases hg x with hx | hx <;> rw [hx] at e
    · exact h.away x i b e
    · simp [T.blocks] at e
  · rw [hv]
    rcases hg x with hx | hx <;> rw [hx] at e
    · exact h.tgt x y e
    · cases e
  · rcases hg x with hx | hx <;> rw [hx]
    · exact (h.vtgt x (by rw [← hv]; exact e)).2
    · rfl

theorem S.get_putT (s : S) (x : Nat) (t : T) (y : Nat) : (s.putT x t).get y = if x = y then t else s.get y := by
  unfold S.get S.putT
  simp only [look]
  by_cases h : x = y <;> simp [h]

/-- What a value means hangs on the slot to which it refers. -/
theorem RepV.slots {w : World} {I : Nat → Prop} {ρ ρ' : Nat → Value} {u : Value} {t : T} (hy : ∀ y, t.target = some y → ρ' y = ρ y) (h : RepV w I ρ u t) : RepV w I ρ' u t := by
  cases t <;> simp only [RepV] at h ⊢ <;> first
    | exact h
    | (rw [hy _ rfl]; exact h)

/-- A slot gets a value; no other slot refers to it. -/
theorem Inv.replace {w0 w : World} {ext I : Nat → Prop} {s s' : S} {ts : Array Value} (h : Inv w0 ext I s ts w) {x : Nat} (hx : x < s.n) {t : T} {v : Value} (hn : s'.n = s.n)
    (hget : ∀ y, s'.get y = if x = y then t else s.get y) (hisv : ∀ y, s'.isVar y = s.isVar y) (hlook : ∀ y, s.isVar y = true → look s'.ts y = Option.none)
    (hnt : ∀ y, y ≠ x → (s.get y).target ≠ some x)
    (hrep : RepV w I (val ts) v t) (hown : ∀ i b, t.blocks w v i = some b → ¬ I b ∧ b < w.heap.size ∧ Mine w0 ext b ∧ ∀ y j, y ≠ x → (s.get y).blocks w (val ts y) j ≠ some b)
    (hinj : ∀ i j b, t.blocks w v i = some b → t.blocks w v j = some b → i = j) (htgt : ∀ y, t.target = some y → s.isVar y = true) (hvt : s.isVar x = true → t.target = Option.none) (htx : t.target ≠ some x) : Inv w0 ext I s' (ts.setIfInBounds x v) w := by
  have hx' : x < ts.size := by rw [h.size]; exact hx
  have hval : ∀ y, y ≠ x → val (ts.setIfInBounds x v) y = val ts y := fun y hy => by rw [val_set _ _ _ hx', if_neg (Ne.symm hy)]
  have hvx : val (ts.setIfInBounds x v) x = v := by rw [val_set _ _ _ hx', if_pos rfl]
  refine ⟨by simpa [hn] using h.size, fun y => ?_, fun y i z j b e1 e2 => ?_, fun y i b e => ?_, h.Ilt, fun y z e => ?_, fun y e => ?_, h.fr⟩
  · rw [hget]
    split
    · rename_i e; subst e
      show RepV w I (val (ts.setIfInBounds x v)) (val (ts.setIfInBounds x v) x) t
      rw [hvx]
      exact RepV.slots (fun z hz => hval z (fun e2 => by rw [e2] at hz; exact htx hz)) hrep
    · rename_i e
      show RepV w I (val (ts.setIfInBounds x v)) (val (ts.setIfInBounds x v) y) (s.get y)
      rw [hval y (Ne.symm e)]
      exact RepV.slots (fun z hz => hval z (fun e2 => hnt y (Ne.symm e) (by rw [hz, e2]))) (h.rep y)
  · rw [hget] at e1 e2
    by_cases hy : x = y
    · subst hy
      rw [if_pos rfl, hvx] at e1
      by_cases hz : x = z
      · subst hz
        rw [if_pos rfl, hvx] at e2
        exact ⟨rfl, hinj i j b e1 e2⟩
      · rw [if_neg hz, hval z (Ne.symm hz)] at e2
        exact absurd e2 ((hown i b e1).2.2.2 z j (Ne.symm hz))
    · rw [if_neg hy, hval y (Ne.symm hy)] at e1
      by_cases hz : x = z
      · subst hz
        rw [if_pos rfl, hvx] at e2
        exact absurd e1 ((hown j b e2).2.2.2 y i (Ne.symm hy))
      · rw [if_neg hz, hval z (Ne.symm hz)] at e2
        exact h.inj y i z j b e1 e2
  · rw [hget] at e
    by_cases hy : x = y
    · subst hy
      rw [if_pos rfl, hvx] at e
      obtain ⟨a1, a2, a3, _⟩ := hown i b e
      exact ⟨a1, a2, a3⟩
    · rw [if_neg hy, hval y (Ne.symm hy)] at e
      exact h.away y i b e
  · rw [hget] at e
    rw [hisv]
    split at e
    · exact htgt z e
    · exact h.tgt y z e
  · rw [hisv] at e
    refine ⟨hlook y e, ?_⟩
    rw [hget]
    split
    · rename_i e2; subst e2; exact hvt e
    · exact (h.vtgt y e).2

def S.put (s : S) (x : Nat) (t : T) : S := if s.isVar x then s.putV x t else s.putT x t
theorem S.put_n (s : S) (x : Nat) (t : T) : (s.put x t).n = s.n := by unfold S.put; split <;> rfl
theorem isVar_setv (s : S) (l : List (Nat × T)) (x : Nat) (t : T) (y : Nat) : ({ n := s.n, ts := l, vs := setv s.vs x t } : S).isVar y = s.isVar y := by
  simp only [S.isVar, look_setv]
  split <;> simp
theorem S.put_isVar (s : S) (x : Nat) (t : T) (y : Nat) : (s.put x t).isVar y = s.isVar y := by
  unfold S.put
  split
  · exact isVar_setv s _ x t y
  · rfl

/-- A slot gets a value. -/
theorem Inv.put {w0 w : World} {ext I : Nat → Prop} {s : S} {ts : Array Value} (h : Inv w0 ext I s ts w) {x : Nat} (hx : x < s.n) {t : T} {v : Value}
    (hrep : RepV w I (val ts) v t) (hown : ∀ i b, t.blocks w v i = some b → ¬ I b ∧ b < w.heap.size ∧ Mine w0 ext b ∧ ∀ y j, y ≠ x → (s.get y).blocks w (val ts y) j ≠ some b)
    (hinj : ∀ i j b, t.blocks w v i = some b → t.blocks w v j = some b → i = j) (htgt : ∀ y, t.target = some y → s.isVar y = true) (hvt : s.isVar x = true → t.target = Option.none) : Inv w0 ext I (s.put x t) (ts.setIfInBounds x v) w := by
  cases hv : s.isVar x with
  | false =>
    have e : s.put x t = s.putT x t := by simp [S.put, hv]
    rw [e]
    have hnx : ∀ y, s.isVar y = true → y ≠ x := fun y hy e => by rw [e, hv] at hy; cases hy
    refine h.replace hx rfl (S.get_putT s x t) (fun _ => rfl) (fun y hy => ?_) (fun y _ e => hnx x (h.tgt y x e) rfl) hrep hown hinj htgt hvt (fun e => hnx x (htgt x e) rfl)
    simp only [S.putT, look, if_neg (Ne.symm (hnx y hy))]
    exact (h.vtgt y hy).1
  | true =>
    have e : s.put x t = s.putV x t := by simp [S.put, hv]
    rw [e]
    -- first what refers to x is forgotten
    let s1 : S := { s with ts := kill x s.ts }
    have g1 : ∀ y, s1.get y = if (s.get y).target = some x then T.none else s.get y := by
      intro y
      simp only [s1, S.get, look_kill]
      obtain ⟨o, hl⟩ : ∃ o, look s.ts y = o := ⟨_, rfl⟩
      simp only [hl]
      cases o with
      | some t => simp only [Option.map_some, Option.getD_some]
      | none =>
        simp only [Option.map_none, Option.getD_none]
        have : ¬ ((look s.vs y).getD .none).target = some x := by
          intro e2
          cases hly : look s.vs y with
          | none => rw [hly] at e2; cases e2
          | some u =>
            have hy : s.isVar y = true := by simp [S.isVar, hly]
            have := (h.vtgt y hy).2
            simp only [S.get, hl, hly, Option.getD_some, Option.getD_none] at this e2
            rw [this] at e2
            cases e2
        rw [if_neg this]
    have h1 : Inv w0 ext I s1 ts w := by
      refine h.weaken rfl (fun y => ?_) (fun _ => rfl) (fun y hy => ?_)
      · rw [g1]; split
        · exact .inr rfl
        · exact .inl rfl
      · simp only [s1, look_kill, (h.vtgt y hy).1, Option.map_none]
    refine h1.replace hx rfl (fun y => ?_) (fun y => isVar_setv s _ x t y) (fun y hy => ?_) (fun y _ e2 => ?_) hrep (fun i b e2 => ?_) hinj htgt hvt (by rw [hvt hv]; simp)
    · show (s.putV x t).get y = if x = y then t else s1.get y
      have hlx : look s1.ts x = Option.none := (h1.vtgt x hv).1
      by_cases hxy : x = y
      · subst hxy
        have : (look s.vs x).isSome = true := hv
        obtain ⟨u, hu⟩ := Option.isSome_iff_exists.1 this
        have hlx' : look (kill x s.ts) x = Option.none := hlx
        simp [S.get, S.putV, hlx', look_setv, hu]
      · simp only [if_neg hxy, S.get, S.putV, look_setv, s1]
    · exact (h1.vtgt y hy).1
    · rw [g1] at e2
      split at e2
      · cases e2
      · rename_i hne; exact hne e2
    · obtain ⟨a1, a2, a3, a4⟩ := hown i b e2
      refine ⟨a1, a2, a3, fun y j hy e3 => a4 y j hy ?_⟩
      rw [g1] at e3
      split at e3
      · simp [T.blocks] at e3
      · exact e3

theorem Inv.putT' {w0 w : World} {ext I : Nat → Prop} {s : S} {ts : Array Value} (h : Inv w0 ext I s ts w) {x : Nat} (hx : x < s.n) (hv : s.isVar x = false) {t : T} {v : Value}
    (hrep : RepV w I (val ts) v t) (hown : ∀ i b, t.blocks w v i = some b → ¬ I b ∧ b < w.heap.size ∧ Mine w0 ext b ∧ ∀ y j, y ≠ x → (s.get y).blocks w (val ts y) j ≠ some b)
    (hinj : ∀ i j b, t.blocks w v i = some b → t.blocks w v j = some b → i = j) (htgt : ∀ y, t.target = some y → s.isVar y = true) : Inv w0 ext I (s.putT x t) (ts.setIfInBounds x v) w := by
  have := h.put hx hrep hown hinj htgt (fun e => by rw [hv] at e; cases e)
  rwa [show s.put x t = s.putT x t by simp [S.put, hv]] at this

/-- A value that owns nothing and refers to nothing. -/
theorem Inv.put_plain {w0 w : World} {ext I : Nat → Prop} {s : S} {ts : Array Value} (h : Inv w0 ext I s ts w) {x : Nat} (hx : x < s.n) {t : T} {v : Value}
    (hrep : RepV w I (val ts) v t) (hb : ∀ i, t.blocks w v i = Option.none) (htgt : t.target = Option.none) : Inv w0 ext I (s.put x t) (ts.setIfInBounds x v) w :=
  h.put hx hrep (fun i b e => by rw [hb] at e; cases e) (fun i j b e => by rw [hb] at e; cases e) (fun y e => by rw [htgt] at e; cases e) (fun _ => htgt)

/-- The region ends: the temporaries are forgotten. -/
def S.shut (s : S) : S := { s with ts := [] }
theorem Inv.shut {w0 w : World} {ext I : Nat → Prop} {s : S} {ts : Array Value} (h : Inv w0 ext I s ts w) : Inv w0 ext I s.shut ts w := by
  refine h.weaken rfl (fun x => ?_) (fun _ => rfl) (fun _ _ => rfl)
  cases hl : look s.ts x with
  | none => left; simp [S.get, S.shut, hl, look]
  | some t =>
    right
    cases hv : look s.vs x with
    | none => simp [S.get, S.shut, hv, look]
    | some u =>
      have := (h.vtgt x (by simp [S.isVar, hv])).1
      rw [hl] at this
      cases this

/-- A temporary is forgotten. -/
def S.drop (s : S) (x : Nat) : S := { s with ts := (x, .none) :: s.ts }
theorem Inv.drop {w0 w : World} {ext I : Nat → Prop} {s : S} {ts : Array Value} (h : Inv w0 ext I s ts w) {x : Nat} (hv : s.isVar x = false) : Inv w0 ext I (s.drop x) ts w := by
  refine h.weaken rfl (fun y => ?_) (fun _ => rfl) (fun y hy => ?_)
  · show (s.putT x .none).get y = _ ∨ (s.putT x .none).get y = _
    rw [S.get_putT]
    split
    · exact .inr rfl
    · exact .inl rfl
  · have : x ≠ y := fun e => by rw [e, hy] at hv; cases hv
    simp only [S.drop, look, if_neg this]
    exact (h.vtgt y hy).1

theorem S.get_upd (s : S) (x : Nat) (t : T) (hv : s.isVar x = true) (hl : look s.ts x = Option.none) (y : Nat) : (s.upd x t).get y = if x = y then t else s.get y := by
  by_cases hxy : x = y
  · subst hxy
    have : (look s.vs x).isSome = true := hv
    obtain ⟨u, hu⟩ := Option.isSome_iff_exists.1 this
    simp [S.get, S.upd, hl, look_setv, hu]
  · simp only [if_neg hxy, S.get, S.upd, look_setv]
theorem S.upd_isVar (s : S) (x : Nat) (t : T) (y : Nat) : (s.upd x t).isVar y = s.isVar y := isVar_setv s _ x t y

/-- A list that a variable owns is written no more: it is data from now on. -/
theorem Inv.freeze {w0 w : World} {ext I : Nat → Prop} {s : S} {ts : Array Value} (h : Inv w0 ext I s ts w) {x : Nat} (hv : s.isVar x = true) {sz : Nat} {rows : List (List D)} (hg : s.get x = .own sz rows) :
    Inv w0 ext (fun b => I b ∨ (val ts x).ownBlock = some b) (s.upd x (.one (.l rows))) ts w := by
  have hget := S.get_upd s x (.one (.l rows)) hv (h.vtgt x hv).1
  have hrx := h.rep x
  rw [hg] at hrx
  have hnb : ∀ y i b, (s.get y).blocks w (val ts y) i = some b → y ≠ x → ¬ (I b ∨ (val ts x).ownBlock = some b) := fun y i b e hy hor => by
    rcases hor with hI | hb
    · exact (h.away y i b e).1 hI
    · exact hy (h.inj y i x 0 b e (by rw [hg]; simpa [T.blocks] using hb)).1
  refine ⟨h.size, fun y => ?_, fun y i z j b e1 e2 => ?_, fun y i b e => ?_, fun b e => ?_, fun y z e => ?_, fun y e => ?_, h.fr⟩
  · rw [hget]
    split
    · rename_i e; subst e
      exact OwnL.data hrx (fun _ e => .inl e) (fun _ e => .inr e)
    · exact RepV.mono (fun _ _ => rfl) (fun _ e => .inl e) (fun _ _ _ => rfl) (fun _ _ _ _ _ => rfl) (h.rep y)
  · rw [hget] at e1 e2
    by_cases hy : x = y
    · rw [if_pos hy] at e1; simp [T.blocks] at e1
    · by_cases hz : x = z
      · rw [if_pos hz] at e2; simp [T.blocks] at e2
      · rw [if_neg hy] at e1; rw [if_neg hz] at e2; exact h.inj y i z j b e1 e2
  · rw [hget] at e
    by_cases hy : x = y
    · rw [if_pos hy] at e; simp [T.blocks] at e
    · rw [if_neg hy] at e
      obtain ⟨_, a2, a3⟩ := h.away y i b e
      exact ⟨hnb y i b e (Ne.symm hy), a2, a3⟩
  · rcases e with e | e
    · exact h.Ilt b e
    · exact hrx.lt e
  · rw [hget] at e
    rw [S.upd_isVar]
    split at e
    · cases e
    · exact h.tgt y z e
  · rw [S.upd_isVar] at e
    refine ⟨(h.vtgt y e).1, ?_⟩
    rw [hget]
    split
    · rfl
    · exact (h.vtgt y e).2

/-- The same of a temporary. -/
theorem Inv.freezeT {w0 w : World} {ext I : Nat → Prop} {s : S} {ts : Array Value} (h : Inv w0 ext I s ts w) {x : Nat} (hv : s.isVar x = false) {sz : Nat} {rows : List (List D)} (hg : s.get x = .own sz rows) :
    Inv w0 ext (fun b => I b ∨ (val ts x).ownBlock = some b) (s.putT x (.one (.l rows))) ts w := by
  have hget := S.get_putT s x (.one (.l rows))
  have hrx := h.rep x
  rw [hg] at hrx
  have hnb : ∀ y i b, (s.get y).blocks w (val ts y) i = some b → y ≠ x → ¬ (I b ∨ (val ts x).ownBlock = some b) := fun y i b e hy hor => by
    rcases hor with hI | hb
    · exact (h.away y i b e).1 hI
    · exact hy (h.inj y i x 0 b e (by rw [hg]; simpa [T.blocks] using hb)).1
  refine ⟨h.size, fun y => ?_, fun y i z j b e1 e2 => ?_, fun y i b e => ?_, fun b e => ?_, fun y z e => ?_, fun y e => ?_, h.fr⟩
  · rw [hget]
    split
    · rename_i e; subst e
      exact OwnL.data hrx (fun _ e => .inl e) (fun _ e => .inr e)
    · exact RepV.mono (fun _ _ => rfl) (fun _ e => .inl e) (fun _ _ _ => rfl) (fun _ _ _ _ _ => rfl) (h.rep y)
  · rw [hget] at e1 e2
    by_cases hy : x = y
    · rw [if_pos hy] at e1; simp [T.blocks] at e1
    · by_cases hz : x = z
      · rw [if_pos hz] at e2; simp [T.blocks] at e2
      · rw [if_neg hy] at e1; rw [if_neg hz] at e2; exact h.inj y i z j b e1 e2
  · rw [hget] at e
    by_cases hy : x = y
    · rw [if_pos hy] at e; simp [T.blocks] at e
    · rw [if_neg hy] at e
      obtain ⟨_, a2, a3⟩ := h.away y i b e
      exact ⟨hnb y i b e (Ne.symm hy), a2, a3⟩
  · rcases e with e | e
    · exact h.Ilt b e
    · exact hrx.lt e
  · rw [hget] at e
    show s.isVar z = true
    split at e
    · cases e
    · exact h.tgt y z e
  · have e' : s.isVar y = true := e
    have hne : x ≠ y := fun e2 => by rw [e2, e'] at hv; cases hv
    refine ⟨?_, ?_⟩
    · simp only [S.putT, look, if_neg hne]; exact (h.vtgt y e').1
    · rw [hget, if_neg hne]; exact (h.vtgt y e').2

end Go.Ax

/- What an operation does to the state, told as a condition on what follows. -/
set_option linter.unusedVariables false
set_option linter.unusedSimpArgs false
namespace Go.Ax
open Go

/-! ### Results and contracts -/
def resT : List Comp → T
  | [.one (.d d)] => .one d
  | [.one (.own sz rows)] => .own sz rows
  | [.agg ds] => .agg ds
  | [.bx ds] => .box (ds.map Leaf.d)
  | cs => .tup cs
/-- An argument: a row of cells, or one. -/
abbrev Arg := Bool × List D
def ArgRep (w : World) (I : Nat → Prop) (v : Value) : Arg → Prop
  | (true, ds) => ∃ cs, v = .agg cs ∧ RepL w I ds cs.toList
  | (false, ds) => ∃ d, ds = [d] ∧ RepD w I d v
def ArgsRep (w : World) (I : Nat → Prop) : List Arg → List Value → Prop
  | [], [] => True
  | a :: as, v :: vs => ArgRep w I v a ∧ ArgsRep w I as vs
  | _, _ => False
/-- What a call comes to: its results, new memory aside. -/
structure Came (w w' : World) (I : Nat → Prop) (v : Value) (cs : List Comp) : Prop where
  fr : Fr noExt w w'
  rep : ∃ I', (∀ b, I b → I' b) ∧ (∀ b, I' b → b < w'.heap.size ∧ (I b ∨ w.heap.size ≤ b)) ∧ RepV w' I' (fun _ => undef) v (resT cs) ∧
    (∀ i b, (resT cs).blocks w' v i = some b → ¬ I' b ∧ w.heap.size ≤ b ∧ b < w'.heap.size) ∧ (∀ i j b, (resT cs).blocks w' v i = some b → (resT cs).blocks w' v j = some b → i = j)
/-- What a call comes to that may write the blocks of ext. -/
structure CameX (ext : Nat → Prop) (w w' : World) (I : Nat → Prop) (v : Value) (cs : List Comp) : Prop where
  fr : Fr ext w w'
  rep : ∃ I', (∀ b, I b → I' b) ∧ (∀ b, I' b → b < w'.heap.size ∧ (I b ∨ Mine w ext b)) ∧ RepV w' I' (fun _ => undef) v (resT cs) ∧
    (∀ i b, (resT cs).blocks w' v i = some b → ¬ I' b ∧ Mine w ext b ∧ b < w'.heap.size) ∧ (∀ i j b, (resT cs).blocks w' v i = some b → (resT cs).blocks w' v j = some b → i = j)
theorem CameX.came {w w' : World} {I : Nat → Prop} {v : Value} {cs : List Comp} (h : CameX noExt w w' I v cs) : Came w w' I v cs := by
  have hm : ∀ b, Mine w noExt b → w.heap.size ≤ b := fun b hb => hb.resolve_right id
  obtain ⟨h0, I', h1, h2, h3, h4, h5⟩ := h
  exact ⟨h0, I', h1, fun b hb => ⟨(h2 b hb).1, (h2 b hb).2.imp id (hm b)⟩, h3, fun i b hb => ⟨(h4 i b hb).1, hm b (h4 i b hb).2.1, (h4 i b hb).2.2⟩, h5⟩
/-- A call: of a function with a body, or of one that the model has itself. -/
def Invokes (P : Program) (f : FuncId) (vals : Array Value) (w : World) (R : Value → World → Prop) : Prop :=
  ((callFunc f vals).run P w = .ok (.enter f vals) w ∧ Calls P f vals w fun e w' => ∃ v, e = .returned v ∧ R v w') ∨ ∃ v w', (callFunc f vals).run P w = .ok (.value v) w' ∧ R v w'
/-- THE CONTRACT OF A FUNCTION: called with these arguments it returns these results. -/
def FSpec (P : Program) (f : FuncId) (args : List Arg) (cs : List Comp) : Prop :=
  ∀ (w : World) (I : Nat → Prop) (vals : List Value), (∀ b, I b → b < w.heap.size) → ArgsRep w I args vals →
    Invokes P f vals.toArray w fun v w' => Came w w' I v cs
/-- X: another way to see to the call. -/
def aCall (P : Program) (f : FuncId) (args : List Arg) (K : List Comp → Prop) (X : Prop := False) : Prop := (∃ cs, FSpec P f args cs ∧ K cs) ∨ X
theorem aCall_of {P : Program} {f : FuncId} {args : List Arg} {cs : List Comp} {K : List Comp → Prop} {X : Prop} (h : FSpec P f args cs) (k : K cs) : aCall P f args K X := .inl ⟨cs, h, k⟩

/-! ### Calls that hand over lists and boxes -/
/-- What is handed over: data, a list with its ownership, a box that may be written. -/
inductive XA where
  | d (A : Arg)
  | own (sz : Nat) (rows : List (List D))
  | lend (sz : Nat) (rows : List (List D))
  | box (cells : List Leaf)
def XA.tt : XA → T
  | .d (true, ds) => .agg ds
  | .d (false, [.p cells]) => .el cells
  | .d (false, [x]) => .one x
  | .d _ => .none
  | .own sz rows => .own sz rows
  | .lend sz rows => .own sz rows
  | .box cells => .box cells
/-- What it is behind the call. -/
def XA.out : XA → List Leaf → T
  | .box _, o => .box o
  | .lend sz rows, _ => .own sz rows
  | _, _ => .none
def consF {α : Type} (a : α) (f : Nat → α) : Nat → α
  | 0 => a
  | n + 1 => f n
def valsF : List Value → Nat → Value
  | [] => fun _ => undef
  | v :: r => consF v (valsF r)
def xF : List XA → Nat → T
  | [] => fun _ => .none
  | x :: r => consF x.tt (xF r)
def oF : List XA → List (List Leaf) → Nat → T
  | [], _ => fun _ => .none
  | x :: r, os => consF (x.out (os.headD [])) (oF r os.tail)
/-- Values and what they stand for, each with blocks of its own. -/
structure Hold (w0 : World) (ext I : Nat → Prop) (w : World) (vs : Nat → Value) (tt : Nat → T) : Prop where
  rep : ∀ x, RepV w I (fun _ => undef) (vs x) (tt x)
  inj : ∀ x i y j b, (tt x).blocks w (vs x) i = some b → (tt y).blocks w (vs y) j = some b → x = y ∧ i = j
  away : ∀ x i b, (tt x).blocks w (vs x) i = some b → ¬ I b ∧ b < w.heap.size ∧ Mine w0 ext b
def blocksOf (w : World) (vs : Nat → Value) (tt : Nat → T) (b : Nat) : Prop := ∃ x i, (tt x).blocks w (vs x) i = some b
/-- What such a call comes to. -/
structure CameH (w w' : World) (I : Nat → Prop) (vs : Nat → Value) (xs : List XA) (os : List (List Leaf)) (v : Value) (cs : List Comp) : Prop where
  fr : Fr (blocksOf w vs (xF xs)) w w'
  rep : ∃ I', (∀ b, I b → I' b) ∧ (∀ b, I' b → b < w'.heap.size ∧ (I b ∨ Mine w (blocksOf w vs (xF xs)) b)) ∧
    Hold w (blocksOf w vs (xF xs)) I' w' (consF v vs) (consF (resT cs) (oF xs os))
/-- THE CONTRACT OF A FUNCTION THAT TAKES LISTS AND BOXES OVER. -/
def XSpec (P : Program) (f : FuncId) (xs : List XA) (os : List (List Leaf)) (cs : List Comp) : Prop :=
  ∀ (w : World) (I : Nat → Prop) (vals : List Value), (∀ b, I b → b < w.heap.size) → vals.length = xs.length → Hold w (blocksOf w (valsF vals) (xF xs)) I w (valsF vals) (xF xs) →
    Invokes P f vals.toArray w fun v w' => CameH w w' I (valsF vals) xs os v cs

def D.flat : D → Bool
  | .v _ => true
  | .l _ => false
  | .p _ => false
  | .c _ _ => false
def Comp.flat : Comp → Bool
  | .one (.d d) => d.flat
  | .one (.own _ rows) => rows.all fun r => r.all D.flat
  | .one .hole => false
  | .agg ds => ds.all D.flat
  | .bx _ => false

/-! ### Operands -/
def cD : Value → Option D
  | .slice Option.none 0 0 => some (.l [])
  | .slice _ _ _ => Option.none
  | .agg _ => Option.none
  | .tuple _ => Option.none
  | v => some (.v v)
def cDs : List Value → Option (List D)
  | [] => some []
  | v :: r => match cD v, cDs r with
    | some d, some ds => some (d :: ds)
    | _, _ => Option.none
def cT : Value → T
  | .slice Option.none 0 0 => .one (.l [])
  | .slice _ _ _ => .none
  | .agg cs => match cDs cs.toList with
    | some ds => .agg ds
    | Option.none => .none
  | .tuple _ => .none
  | .bool b => .one (.v (.bool b))
  | .int k n => .one (.v (.int k n))
  | v => .one (.v v)

def opd (s : S) : Operand → T
  | .tmp t => match s.get t with
    | .own sz rows => if s.isVar t then .ref t else .own sz rows
    | .box cells => if s.isVar t then .bref t 0 else .none
    | u => u
  | .const v => cT v
  | .func f => .one (.v (.func (.func f) #[] #[]))
  | .global _ => .none
/-- An operand, and what the slot holds to which it refers. -/
structure R where
  t : T
  c : T
def ev (s : S) (x : Operand) : R :=
  let t := opd s x
  ⟨t, match t.target with
    | some y => s.get y
    | Option.none => .none⟩

def R.lst (r : R) : Option (List (List D)) :=
  match r.t, r.c with
  | .one (.l rows), _ => some rows
  | .own _ rows, _ => some rows
  | .ref _, .own _ rows => some rows
  | .ref _, .one (.l rows) => some rows
  | .cref _ off, .box cells => match cells[off]? with
    | some (.own _ rows) => some rows
    | _ => Option.none
  | _, _ => Option.none
/-- As data, whoever owns it. -/
def R.arg (r : R) : Option Arg :=
  match r.t, r.c with
  | .one d, _ => some (false, [d])
  | .agg ds, _ => some (true, ds)
  | .own _ rows, _ => some (false, [.l rows])
  | .ref _, .own _ rows => some (false, [.l rows])
  | .ref _, .one d => some (false, [d])
  | .cref _ off, .box cells => match cells[off]? with
    | some (.own _ rows) => some (false, [.l rows])
    | _ => Option.none
  | _, _ => Option.none
/-- Is it data that nobody owns? -/
def R.plain (r : R) : Bool :=
  match r.t with
  | .one _ => true
  | .agg _ => true
  | _ => false
def args? (ev : Operand → R) : List Operand → Option (List Arg)
  | [] => some []
  | x :: r => match (ev x).arg, args? ev r with
    | some a, some as => some (a :: as)
    | _, _ => Option.none

/-! ### Types -/
/-- The cells of a zero value, as data. -/
def zeroD (P : Program) (t : TypeId) : Option (List D) := ((P.info? t).bind (·.zero)).bind fun z => cDs z.cells.toList
/-- The row that stands in where there is none. -/
def zrow (P : Program) (t : TypeId) : List D := (zeroD P t).getD []
def zrowAt (P : Program) (t : TypeId) (off : Nat) : List D := List.replicate off (.v undef) ++ zrow P t
def isAggT (P : Program) (t : TypeId) : Bool :=
  match P.underlying t with
  | some (.struct _) => true
  | some (.array _ _) => true
  | _ => false

def qLoad (P : Program) (t : TypeId) (cells : List D) (K : T → Prop) : Prop :=
  (P.underlying t).isSome = true ∧ (if isAggT P t = true then P.cellsOf t ≤ cells.length ∧ K (.agg (cells.take (P.cellsOf t))) else match cells with
    | d :: _ => K (.one d)
    | [] => False)
def leafD : List Leaf → Option (List D)
  | [] => some []
  | .d d :: r => (leafD r).map (d :: ·)
  | .own _ [] :: r => (leafD r).map (.l [] :: ·)
  | _ :: _ => Option.none

/-! ### Values -/
def intBin (op : BinOp) (k : IntKind) (a b : Int) (K : Value → Prop) : Prop :=
  match op with
  | .add => K (.int k (k.wrap (a + b)))
  | .sub => K (.int k (k.wrap (a - b)))
  | .mul => K (.int k (k.wrap (a * b)))
  | .quo => b ≠ 0 ∧ K (.int k (k.wrap (a.tdiv b)))
  | .rem => b ≠ 0 ∧ K (.int k (a.tmod b))
  | .and => K (.int k (Go.bits .and k a b))
  | .or => K (.int k (Go.bits .or k a b))
  | .xor => K (.int k (Go.bits .xor k a b))
  | .andNot => K (.int k (Go.bits .andNot k a b))
  | .shl => 0 ≤ b ∧ K (.int k (k.wrap (a * 2 ^ (min b.toNat k.bits))))
  | .shr => 0 ≤ b ∧ K (.int k (a.fdiv (2 ^ (min b.toNat k.bits))))
  | .eql => K (.bool (a == b))
  | .neq => K (.bool (a != b))
  | .lss => K (.bool (decide (a < b)))
  | .leq => K (.bool (decide (a ≤ b)))
  | .gtr => K (.bool (decide (a > b)))
  | .geq => K (.bool (decide (a ≥ b)))
def binV (P : Program) (op : BinOp) (t : TypeId) (x y : Value) (K : Value → Prop) : Prop :=
  match x, y with
  | .int k a, .int k' b => (k = k' ∨ op = .shl ∨ op = .shr) ∧ intBin op k a b K
  | .bool a, .bool b => P.underlying t = some .bool ∧ match op with
    | .eql => K (.bool (a == b))
    | .neq => K (.bool (!(a == b)))
    | _ => False
  | _, _ => False
/-- How values of a struct type are held against one another: told of each type by itself. -/
def EqTy (P : Program) (t : TypeId) (ds es : List D) (β : Bool) : Prop :=
  P.eqGuardType P.depth t = false ∧ ∀ (w : World) (I : Nat → Prop) (xs ys : List Value), RepL w I ds xs → RepL w I es ys → (Op.equal t (.agg xs.toArray) (.agg ys.toArray)).run P w = .ok β w
def eqAgg (P : Program) (op : BinOp) (t : TypeId) (ds es : List D) (K : T → Prop) : Prop :=
  ∃ β, EqTy P t ds es β ∧ match op with
    | .eql => K (.one (.v (.bool β)))
    | .neq => K (.one (.v (.bool (!β))))
    | _ => False
def unV (op : UnOp) (x : Value) (K : Value → Prop) : Prop :=
  match op, x with
  | .not, .bool b => K (.bool (!b))
  | .neg, .int k n => K (.int k (k.wrap (0 - n)))
  | .xor, .int k n => K (.int k (Go.bits .xor k (if k.signed then -1 else k.max) n))
  | _, _ => False
def convV (P : Program) (src dst : TypeId) (x : Value) (K : Value → Prop) : Prop :=
  (P.underlying src).isSome = true ∧ match P.underlying dst, x with
    | some (.int k), .int _ n => K (.int k (k.wrap n))
    | _, _ => False

def Comp.plain : Comp → Bool
  | .one (.d _) => true
  | .agg _ => true
  | _ => false
def qMove (r : R) (K : T → Prop) : Prop :=
  match r.t with
  | .none => False
  | .box _ => False
  | .tup cs => cs.all Comp.plain = true ∧ K (.tup cs)
  | .own _ _ => False
  | t => K t

/-- What is appended, held, compared.. of parts of a row. -/
def partD (P : Program) (t : TypeId) (ds : List D) (off : Nat) (K : T → Prop) : Prop :=
  (P.underlying t).isSome = true ∧ (if isAggT P t = true then off + P.cellsOf t ≤ ds.length ∧ K (.agg ((ds.drop off).take (P.cellsOf t))) else match ds[off]? with
    | some d => K (.one d)
    | Option.none => False)

def foldMM (max : Bool) : List (Option D) → Option (IntKind × Int) → Option (IntKind × Int)
  | [], acc => acc
  | some (.v (.int k n)) :: r, Option.none => foldMM max r (some (k, n))
  | some (.v (.int _ n)) :: r, some (k, m) => foldMM max r (some (k, if max then (if n > m then n else m) else (if n < m then n else m)))
  | _, _ => Option.none

/-- What follows a value. -/
def kV (K : T → Prop) (r : Value) : Prop := K (.one (.v r))
/-- What follows a quiet call. -/
def kCall (g : Bool) (K : T → Prop) (cs : List Comp) : Prop := (cs.all Comp.flat = true ∨ g = true) ∧ K (resT cs)
/-- What a function has captured, as an argument. -/
def capA (d : D) : Arg := (false, [d])
/-- What is captured: pointers to what nobody writes any more. -/
def capsD (ev : Operand → R) : List Operand → Option (List D)
  | [] => some []
  | x :: r => match (ev x).t, capsD ev r with
    | .el cells, some ds => some (.p cells :: ds)
    | _, _ => Option.none
/-- THE QUIET OPERATIONS: they turn nothing but their own slot. -/
def qOp (P : Program) (op : Op) (ev : Operand → R) (K : T → Prop) : Prop :=
  match op with
  | .move x => qMove (ev x) K
  | .makeFunc (.func g) first caps => first = #[] ∧ match capsD ev caps.toList with
    | some ds => K (.one (.c g ds))
    | Option.none => False
  | .pick c a b => match (ev c).t with
    | .one (.v (.bool β)) => (β = true → qMove (ev a) K) ∧ (β = false → qMove (ev b) K)
    | _ => False
  | .binOp op t x y _ => match (ev x).t, (ev y).t with
    | .one (.v a), .one (.v b) => binV P op t a b (kV K)
    | .agg ds, .agg es => eqAgg P op t ds es K
    | _, _ => False
  | .unOp op _ x => match (ev x).t with
    | .one (.v a) => unV op a (kV K)
    | _ => False
  | .convert src dst x => match (ev x).t with
    | .one (.v a) => convV P src dst a (kV K)
    | _ => False
  | .load t a => match (ev a).t, (ev a).c with
    | .el cells, _ => qLoad P t cells K
    | .oref _ sz i off, .own _ rows => i < rows.length ∧ (rows.getD i (zrowAt P t off)).length = sz ∧ qLoad P t ((rows.getD i (zrowAt P t off)).drop off) K
    | .bref y off, .box cells =>
      if isAggT P t = true then match leafD ((cells.drop off).take (P.cellsOf t)) with
        | some ds => qLoad P t ds K
        | Option.none => False
      else (P.underlying t).isSome = true ∧ match cells[off]? with
        | some (.d d) => K (.one d)
        | some (.own _ _) => K (.cref y off)
        | _ => False
    | _, _ => False
  | .nilCheck x => match (ev x).t with
    | .bref y off => K (.bref y off)
    | .el cells => K (.el cells)
    | _ => False
  | .fieldAddr st x f => match P.underlying st with
    | some (.struct fs) => match fs[f]? with
      | some fld => (P.info? fld.type).isSome = true ∧ 0 < P.cellsOf fld.type ∧ match (ev x).t with
        | .bref y off => K (.bref y (off + fld.offset))
        | .el cells => K (.el (cells.drop fld.offset))
        | .oref y sz i off => K (.oref y sz i (off + fld.offset))
        | _ => False
      | Option.none => False
    | _ => False
  | .field st x f => match P.underlying st with
    | some (.struct fs) => match fs[f]?, (ev x).t with
      | some fld, .agg ds => partD P fld.type ds fld.offset K
      | _, _ => False
    | _ => False
  | .indexAddr t x i => match (ev i).t with
    | .one (.v (.int _ n)) => match P.underlying t with
      | some (.slice e) => (P.info? e).isSome = true ∧ match (ev x).t, (ev x).c with
        | .ref y, .own _ rows => 0 ≤ n ∧ n < rows.length ∧ (rows.getD n.toNat (zrow P e)).length = P.cellsOf e ∧ K (.oref y (P.cellsOf e) n.toNat 0)
        | .ref _, .one (.l rows) => 0 ≤ n ∧ n < rows.length ∧ (rows.getD n.toNat (zrow P e)).length = P.cellsOf e ∧ K (.el (rows.getD n.toNat (zrow P e)))
        | .one (.l rows), _ => 0 ≤ n ∧ n < rows.length ∧ (rows.getD n.toNat (zrow P e)).length = P.cellsOf e ∧ K (.el (rows.getD n.toNat (zrow P e)))
        | _, _ => False
      | some (.array m e) => (P.info? e).isSome = true ∧ 0 ≤ n ∧ n < m ∧ match (ev x).t with
        | .bref y off => K (.bref y (off + n.toNat * P.cellsOf e))
        | .el cells => K (.el (cells.drop (n.toNat * P.cellsOf e)))
        | _ => False
      | _ => False
    | _ => False
  | .index t x i => match (ev i).t, P.underlying t, (ev x).t with
    | .one (.v (.int _ n)), some (.array m e), .agg ds => (P.info? e).isSome = true ∧ 0 ≤ n ∧ n < m ∧ partD P e ds (n.toNat * P.cellsOf e) K
    | .one (.v (.int _ n)), some .string, .one (.v (.string str)) => 0 ≤ n ∧ ∃ b, str[n.toNat]? = some b ∧ K (.one (.v (.int .u8 b.toNat)))
    | _, _, _ => False
  | .extract x j => match (ev x).t with
    | .tup cs => match cs[j]? with
      | some (.one (.d d)) => K (.one d)
      | some (.agg ds) => K (.agg ds)
      | _ => False
    | _ => False
  | .slice t x lo hi mx => match P.underlying t, (ev x).t with
    | some (.slice e), .one (.l rows) => (P.info? e).isSome = true ∧ (∀ r ∈ rows, r.length = P.cellsOf e) ∧
      ∃ l h m : Nat, (match lo with | some y => (∃ k, (ev y).t = .one (.v (.int k l))) | Option.none => l = 0) ∧ (match hi with | some y => (∃ k, (ev y).t = .one (.v (.int k h))) | Option.none => h = rows.length) ∧
        (match mx with | some y => hi.isSome = true ∧ (∃ k, (ev y).t = .one (.v (.int k m))) ∧ m ≤ rows.length | Option.none => m = rows.length) ∧ l ≤ h ∧ h ≤ m ∧ K (.one (.l ((rows.take h).drop l)))
    | _, _ => False
  | .call c => match c.callee with
    | .builtin .len => match c.args.toList, c.argTypes.toList with
      | [x], [t] => match P.underlying t with
        | some (.slice _) => match (ev x).lst with
          | some rows => K (.one (.v (.int .i64 rows.length)))
          | Option.none => False
        | some (.array n _) => K (.one (.v (.int .i64 n)))
        | _ => False
      | _, _ => False
    | .builtin .max => match foldMM true (c.args.toList.map fun x => match (ev x).t with | .one d => some d | _ => Option.none) Option.none with
      | some (k, n) => K (.one (.v (.int k n)))
      | Option.none => False
    | .builtin .min => match foldMM false (c.args.toList.map fun x => match (ev x).t with | .one d => some d | _ => Option.none) Option.none with
      | some (k, n) => K (.one (.v (.int k n)))
      | Option.none => False
    | .value f => match (ev f).t with
      | .one (.v (.func (.func g) first captured)) => first = #[] ∧ captured = #[] ∧ match args? ev c.args.toList with
        | some as => aCall P g as (kCall (c.args.toList.all fun x => (ev x).plain) K)
        | Option.none => False
      | .one (.c g caps) => match args? ev c.args.toList with
        | some as => aCall P g (as ++ caps.map capA) (kCall (c.args.toList.all fun x => (ev x).plain) K)
        | Option.none => False
      | _ => False
    | _ => False
  | _ => False

/-- It comes to one thing. -/
theorem qMove_one {r : R} {K : T → Prop} (h : qMove r K) : ∃ t, qMove r (· = t) ∧ K t := by
  unfold qMove at *
  split at h <;> first
    | exact h.elim
    | exact ⟨_, rfl, h⟩
    | exact ⟨_, ⟨h.1, rfl⟩, h.2⟩
theorem intBin_one {op : BinOp} {k : IntKind} {a b : Int} {K : Value → Prop} (h : intBin op k a b K) : ∃ r, intBin op k a b (· = r) ∧ K r := by
  cases op <;> simp only [intBin] at h ⊢ <;> first
    | exact ⟨_, rfl, h⟩
    | exact ⟨_, ⟨h.1, rfl⟩, h.2⟩
theorem binV_one {P : Program} {op : BinOp} {t : TypeId} {x y : Value} {K : Value → Prop} (h : binV P op t x y K) : ∃ r, binV P op t x y (· = r) ∧ K r := by
  unfold binV at *
  split at h
  · obtain ⟨r, h1, h2⟩ := intBin_one h.2
    exact ⟨r, ⟨h.1, h1⟩, h2⟩
  · obtain ⟨h0, h⟩ := h
    cases op <;> simp only at h ⊢ <;> first
      | exact h.elim
      | exact ⟨_, ⟨h0, rfl⟩, h⟩
  · exact h.elim

end Go.Ax

/- The quiet operations are told rightly. -/
set_option linter.unusedVariables false
set_option linter.unusedSimpArgs false
namespace Go.Ax
open Go

theorem eqAgg_one {P : Program} {op : BinOp} {t : TypeId} {ds es : List D} {K : T → Prop} (h : eqAgg P op t ds es K) : ∃ r, eqAgg P op t ds es (· = r) ∧ K r := by
  obtain ⟨β, h0, h⟩ := h
  cases op <;> simp only at h <;> first
    | exact h.elim
    | exact ⟨_, ⟨β, h0, rfl⟩, h⟩
theorem unV_one {op : UnOp} {x : Value} {K : Value → Prop} (h : unV op x K) : ∃ r, unV op x (· = r) ∧ K r := by
  unfold unV at *
  split at h <;> first
    | exact h.elim
    | exact ⟨_, rfl, h⟩
theorem convV_one {P : Program} {a b : TypeId} {x : Value} {K : Value → Prop} (h : convV P a b x K) : ∃ r, convV P a b x (· = r) ∧ K r := by
  unfold convV at *
  obtain ⟨h0, h⟩ := h
  split at h <;> first
    | exact h.elim
    | exact ⟨_, ⟨h0, rfl⟩, h⟩
theorem qLoad_one {P : Program} {t : TypeId} {cells : List D} {K : T → Prop} (h : qLoad P t cells K) : ∃ r, qLoad P t cells (· = r) ∧ K r := by
  unfold qLoad at *
  obtain ⟨h0, h⟩ := h
  split at h
  · rename_i ha
    exact ⟨_, ⟨h0, by rw [if_pos ha]; exact ⟨h.1, rfl⟩⟩, h.2⟩
  · rename_i ha
    cases cells with
    | nil => exact h.elim
    | cons d r => exact ⟨_, ⟨h0, by rw [if_neg ha]⟩, h⟩
theorem partD_one {P : Program} {t : TypeId} {cells : List D} {off : Nat} {K : T → Prop} (h : partD P t cells off K) : ∃ r, partD P t cells off (· = r) ∧ K r := by
  unfold partD at *
  obtain ⟨h0, h⟩ := h
  split at h
  · rename_i ha
    exact ⟨_, ⟨h0, by rw [if_pos ha]; exact ⟨h.1, rfl⟩⟩, h.2⟩
  · rename_i ha
    split at h
    · rename_i d hd
      exact ⟨_, ⟨h0, by rw [if_neg ha]⟩, h⟩
    · exact h.elim
theorem aCall_one {P : Program} {f : FuncId} {as : List Arg} {g : Bool} {K : T → Prop} (h : aCall P f as (kCall g K)) : ∃ r, aCall P f as (kCall g (· = r)) ∧ K r := by
  obtain ⟨cs, h1, h2, h3⟩ := h.resolve_right id
  exact ⟨_, .inl ⟨cs, h1, h2, rfl⟩, h3⟩

/-- A quiet operation comes to one thing. -/
theorem qOp_one {P : Program} {op : Op} {ev : Operand → R} {K : T → Prop} (h : qOp P op ev K) : ∃ r, qOp P op ev (· = r) ∧ K r := by
  cases op <;> simp only [qOp] at h ⊢ <;> try exact h.elim
  case move x => exact qMove_one h
  case makeFunc f first caps =>
    cases f <;> simp only [qOp] at h ⊢ <;> try exact h.elim
    obtain ⟨h0, h⟩ := h
    split at h <;> first | exact h.elim | exact ⟨_, ⟨h0, rfl⟩, h⟩
  case pick c a b =>
    split at h
    · rename_i β _
      cases β with
      | true => obtain ⟨r, h1, h2⟩ := qMove_one (h.1 rfl); exact ⟨r, ⟨fun _ => h1, fun e => by cases e⟩, h2⟩
      | false => obtain ⟨r, h1, h2⟩ := qMove_one (h.2 rfl); exact ⟨r, ⟨(fun e => by cases e), fun _ => h1⟩, h2⟩
    · exact h.elim
  case binOp op t x y yt =>
    split at h
    · obtain ⟨r, h1, h2⟩ := binV_one h
      refine ⟨_, ?_, h2⟩
      have : kV (· = T.one (D.v r)) = (· = r) := by funext z; simp [kV]
      rw [this]; exact h1
    · exact eqAgg_one h
    · exact h.elim
  case unOp op t x =>
    split at h
    · obtain ⟨r, h1, h2⟩ := unV_one h
      refine ⟨_, ?_, h2⟩
      have : kV (· = T.one (D.v r)) = (· = r) := by funext z; simp [kV]
      rw [this]; exact h1
    · exact h.elim
  case convert a b x =>
    split at h
    · obtain ⟨r, h1, h2⟩ := convV_one h
      refine ⟨_, ?_, h2⟩
      have : kV (· = T.one (D.v r)) = (· = r) := by funext z; simp [kV]
      rw [this]; exact h1
    · exact h.elim
  case load t a =>
    split at h
    · exact qLoad_one h
    · obtain ⟨h0, h1, h⟩ := h
      obtain ⟨r, h2, h3⟩ := qLoad_one h
      exact ⟨r, ⟨h0, h1, h2⟩, h3⟩
    · by_cases ha : isAggT P t = true
      · simp only [if_pos ha] at h ⊢
        split at h
        · exact qLoad_one h
        · exact h.elim
      · simp only [if_neg ha] at h ⊢
        obtain ⟨h0, h⟩ := h
        split at h
        · exact ⟨_, ⟨h0, rfl⟩, h⟩
        · exact ⟨_, ⟨h0, rfl⟩, h⟩
        · exact h.elim
    · exact h.elim
  case nilCheck x => split at h <;> first | exact h.elim | exact ⟨_, rfl, h⟩
  case fieldAddr st x f =>
    split at h <;> try exact h.elim
    split at h <;> try exact h.elim
    obtain ⟨h0, h1, h⟩ := h
    split at h <;> first | exact h.elim | exact ⟨_, ⟨h0, h1, rfl⟩, h⟩
  case field st x f =>
    split at h <;> try exact h.elim
    split at h <;> try exact h.elim
    exact partD_one h
  case indexAddr t x i =>
    split at h <;> try exact h.elim
    split at h <;> try exact h.elim
    · obtain ⟨h0, h⟩ := h
      split at h <;> first | exact h.elim | exact ⟨_, ⟨h0, h.1, h.2.1, h.2.2.1, rfl⟩, h.2.2.2⟩
    · obtain ⟨h0, h1, h2, h⟩ := h
      split at h <;> first | exact h.elim | exact ⟨_, ⟨h0, h1, h2, rfl⟩, h⟩
  case index t x i =>
    split at h <;> try exact h.elim
    · obtain ⟨h0, h1, h2, h⟩ := h
      obtain ⟨r, h3, h4⟩ := partD_one h
      exact ⟨r, ⟨h0, h1, h2, h3⟩, h4⟩
    · obtain ⟨h0, b, h1, h⟩ := h
      exact ⟨_, ⟨h0, b, h1, rfl⟩, h⟩
  case extract x j =>
    split at h <;> try exact h.elim
    split at h <;> first | exact h.elim | exact ⟨_, rfl, h⟩
  case slice t x lo hi mx =>
    split at h <;> try exact h.elim
    obtain ⟨h0, h1, l, hh, m, a1, a2, a3, a4, a5, h⟩ := h
    exact ⟨_, ⟨h0, h1, l, hh, m, a1, a2, a3, a4, a5, rfl⟩, h⟩
  case call c =>
    split at h <;> try exact h.elim
    · split at h <;> try exact h.elim
      split at h <;> try exact h.elim
      · split at h <;> first | exact h.elim | exact ⟨_, rfl, h⟩
      · exact ⟨_, rfl, h⟩
    · split at h <;> first | exact h.elim | exact ⟨_, rfl, h⟩
    · split at h <;> first | exact h.elim | exact ⟨_, rfl, h⟩
    · split at h <;> try exact h.elim
      · obtain ⟨h0, h1, h⟩ := h
        split at h <;> try exact h.elim
        obtain ⟨r, h2, h3⟩ := aCall_one h
        exact ⟨r, ⟨h0, h1, h2⟩, h3⟩
      · split at h <;> try exact h.elim
        obtain ⟨r, h2, h3⟩ := aCall_one h
        exact ⟨r, h2, h3⟩

/-! ### Operands -/
theorem cD_sound {w : World} {I : Nat → Prop} {v : Value} {d : D} (h : cD v = some d) : RepD w I d v := by
  unfold cD at h
  split at h
  · cases h; exact RepD.l_nil w I none 0 (by simp)
  · cases h
  · cases h
  · cases h
  · simp only [Option.some.injEq] at h
    subst h
    rename_i h1 h2 h3 h4
    refine .v v ?_
    cases v <;> first | rfl | (exfalso; first | exact h3 _ rfl | exact h4 _ rfl)
theorem cDs_sound {w : World} {I : Nat → Prop} {vs : List Value} {ds : List D} (h : cDs vs = some ds) : RepL w I ds vs := by
  induction vs generalizing ds with
  | nil => simp [cDs] at h; subst h; exact RepL.nil _ _
  | cons v vs ih =>
    simp only [cDs] at h
    split at h
    · rename_i d ds' h1 h2
      simp only [Option.some.injEq] at h; subst h
      exact RepL.cons (cD_sound h1) (ih h2)
    · cases h
theorem cT_sound {w : World} {I : Nat → Prop} {ρ : Nat → Value} (v : Value) : RepV w I ρ v (cT v) := by
  cases v with
  | slice a n c =>
    cases a <;> cases n <;> cases c <;> first | exact RepD.l_nil w I none 0 (by simp) | trivial
  | agg cs =>
    simp only [cT]
    cases h : cDs cs.toList with
    | none => trivial
    | some ds => exact ⟨cs, rfl, cDs_sound h⟩
  | tuple vs => trivial
  | _ => exact RepD.v _ rfl
theorem cT_target (v : Value) : (cT v).target = none := by
  unfold cT; split <;> first | rfl | (split <;> rfl)
theorem cT_blocks {w : World} (v : Value) (i : Nat) : (cT v).blocks w v i = none := by
  cases v with
  | slice a n c =>
    cases a <;> cases n <;> cases c <;> first | rfl | simp [cT, T.blocks, Value.ownBlock]
  | agg cs => simp only [cT]; cases h : cDs cs.toList <;> rfl
  | _ => rfl

theorem opd_sound {w0 w : World} {ext I : Nat → Prop} {s : S} {ts : Array Value} {ds : List Deferred} (h : Inv w0 ext I s ts w) (x : Operand) :
    RepV w I (val ts) (Act.eval ⟨ts, ds⟩ x) (opd s x) := by
  cases x with
  | tmp t =>
    have hr := h.rep t
    show RepV w I (val ts) (val ts t) (opd s (.tmp t))
    unfold opd
    simp only []
    split
    · rename_i rows hg
      rw [hg] at hr
      split
      · rfl
      · exact hr
    · rename_i cells hg
      rw [hg] at hr
      split
      · obtain ⟨b, e, cs, h1, _⟩ := hr
        exact ⟨b, h1, h1⟩
      · trivial
    · exact hr
  | const v => exact cT_sound v
  | func f => exact RepD.v _ rfl
  | global g => trivial

theorem opd_target {w0 w : World} {ext I : Nat → Prop} {s : S} {ts : Array Value} (h : Inv w0 ext I s ts w) (x : Operand) {y : Nat} (e : (opd s x).target = some y) : s.isVar y = true := by
  cases x with
  | tmp t =>
    unfold opd at e
    simp only [] at e
    split at e
    · split at e
      · rename_i hv; cases e; exact hv
      · cases e
    · split at e
      · rename_i hv; cases e; exact hv
      · cases e
    · exact h.tgt t y e
  | const v => rw [show opd s (.const v) = cT v from rfl, cT_target] at e; cases e
  | func f => cases e
  | global g => cases e

/-- What a slot's referent holds. -/
theorem ev_c {w0 w : World} {ext I : Nat → Prop} {s : S} {ts : Array Value} (h : Inv w0 ext I s ts w) (x : Operand) {y : Nat} (e : (ev s x).t.target = some y) : (ev s x).c = s.get y ∧ RepV w I (val ts) (val ts y) (ev s x).c := by
  have : (ev s x).c = s.get y := by
    unfold ev at e ⊢
    simp only at e ⊢
    rw [e]
  exact ⟨this, by rw [this]; exact h.rep y⟩

theorem RepL.toArray {w : World} {I : Nat → Prop} {ds : List D} {cs : Array Value} (h : RepL w I ds cs.toList) : ds.length = cs.size := by simpa using h.1

/-! ### Types -/
theorem info_of_underlying {P : Program} {t : TypeId} (h : (P.underlying t).isSome = true) : ∃ i, P.info? t = some i := by
  unfold Program.underlying at h
  cases hi : P.info? t with
  | none => rw [hi] at h; cases h
  | some i => exact ⟨i, rfl⟩
theorem run_sizeOf' {P : Program} {t : TypeId} {i : TypeInfo} (h : P.info? t = some i) (w : World) : (sizeOf t).run P w = .ok (P.cellsOf t) w := by
  simp [sizeOf, typeInfo, h, Program.cellsOf]
theorem run_isAgg' {P : Program} {t : TypeId} (h : (P.underlying t).isSome = true) (w : World) : (isAgg t).run P w = .ok (isAggT P t) w := by
  obtain ⟨d, hd⟩ := Option.isSome_iff_exists.1 h
  unfold isAgg isAggT
  simp only [Sem.run_bind, run_underlying hd, Result.andThen_ok, hd]
  cases d <;> rfl

theorem addr_add (b o j : Nat) : (⟨b, o, none⟩ : Addr).add j = ⟨b, o + j, none⟩ := by unfold Addr.add; split <;> simp_all

theorem run_loadVar' {P : Program} {t : TypeId} (hu : (P.underlying t).isSome = true) {w : World} {b o : Nat} {vs : List Value} (hc : ∀ (j : Nat) (v : Value), vs[j]? = some v → w.cell? ⟨b, o + j, none⟩ = some v) :
    (isAggT P t = true → P.cellsOf t ≤ vs.length → (loadVar t ⟨b, o, none⟩).run P w = .ok (.agg (vs.take (P.cellsOf t)).toArray) w) ∧
    (isAggT P t = false → ∀ v, vs[0]? = some v → (loadVar t ⟨b, o, none⟩).run P w = .ok v w) := by
  obtain ⟨i, hi⟩ := info_of_underlying hu
  constructor
  · intro ha hn
    have hl := run_loadCells_list (P := P) (w := w) ⟨b, o, none⟩ (vs.take (P.cellsOf t)) (fun j v hj => by
      rw [addr_add]
      rw [List.getElem?_take] at hj
      split at hj
      · exact hc j v hj
      · cases hj)
    rw [List.length_take, Nat.min_eq_left hn] at hl
    simp only [loadVar, Sem.run_bind, run_isAgg' hu, Result.andThen_ok, ha, if_true, run_sizeOf' hi, hl, Sem.run_pure]
  · intro ha v hv
    have hcell := hc 0 v hv
    simp only [Nat.add_zero] at hcell
    simp only [loadVar, Sem.run_bind, run_isAgg' hu, Result.andThen_ok, ha, Bool.false_eq_true, if_false, run_load, hcell]

end Go.Ax

/- The quiet operations are told rightly: the values. -/
set_option linter.unusedVariables false
set_option linter.unusedSimpArgs false
namespace Go.Ax
open Go

theorem intBin_sound {P : Program} {op : BinOp} {k k' : IntKind} {a b : Int} {r : Value} {t : TypeId} {w : World} (hk : k = k' ∨ op = .shl ∨ op = .shr) (h : intBin op k a b (· = r)) :
    (Go.binOp op t (.int k a) (.int k' b)).run P w = .ok r w ∧ r.oneCell' = true := by
  cases op <;> simp only [intBin] at h <;> simp only [reduceCtorEq, or_false, or_true, false_or] at hk
  case shl => obtain ⟨h0, rfl⟩ := h; exact ⟨by simp [Go.binOp, Op.shift, show ¬ b < 0 by omega], rfl⟩
  case shr => obtain ⟨h0, rfl⟩ := h; exact ⟨by simp [Go.binOp, Op.shift, show ¬ b < 0 by omega], rfl⟩
  case quo => obtain ⟨h0, rfl⟩ := h; subst hk; exact ⟨by simp [Go.binOp, Op.intDiv, h0], rfl⟩
  case rem => obtain ⟨h0, rfl⟩ := h; subst hk; exact ⟨by simp [Go.binOp, Op.intDiv, h0], rfl⟩
  all_goals (subst h; subst hk; exact ⟨by simp [Go.binOp, Op.intArith, Op.intBits, Op.intCmp, Go.bits], rfl⟩)

theorem binV_sound {P : Program} {op : BinOp} {t : TypeId} {x y r : Value} {w : World} (h : binV P op t x y (· = r)) :
    (Go.binOp op t x y).run P w = .ok r w ∧ r.oneCell' = true ∧ ∀ ox oy, (eqGuard op t ox oy x y).run P w = .ok () w := by
  unfold binV at h
  split at h
  · obtain ⟨h1, h2⟩ := intBin_sound (P := P) (t := t) (w := w) h.1 h.2
    refine ⟨h1, h2, fun ox oy => ?_⟩
    unfold eqGuard
    split <;> simp
  · rename_i a b
    obtain ⟨h0, h⟩ := h
    refine ⟨?_, ?_, fun ox oy => by unfold eqGuard; split <;> simp⟩
    all_goals (cases op <;> simp only at h <;> first | exact h.elim | skip)
    · subst h
      rw [show Go.binOp .eql t (.bool a) (.bool b) = (do pure (.bool (← Op.equal t (.bool a) (.bool b)))) from rfl, Sem.run_bind, show Op.equal t (.bool a) (.bool b) = Op.equalIn (9999 + 1) t (.bool a) (.bool b) from rfl, run_equalIn_bool' w 9999 t a b h0]
      rfl
    · subst h
      rw [show Go.binOp .neq t (.bool a) (.bool b) = (do pure (.bool (!(← Op.equal t (.bool a) (.bool b))))) from rfl, Sem.run_bind, show Op.equal t (.bool a) (.bool b) = Op.equalIn (9999 + 1) t (.bool a) (.bool b) from rfl, run_equalIn_bool' w 9999 t a b h0]
      rfl
    · subst h; rfl
    · subst h; rfl
  · exact h.elim

theorem unV_sound {P : Program} {op : UnOp} {x r : Value} {w : World} (h : unV op x (· = r)) : (Op.unary op x).run P w = .ok r w ∧ r.oneCell' = true := by
  unfold unV at h
  split at h
  · subst h; exact ⟨rfl, rfl⟩
  · subst h; exact ⟨rfl, rfl⟩
  · subst h; exact ⟨by simp [Op.unary, Op.intBits, Go.bits], rfl⟩
  · exact h.elim

theorem convV_sound {P : Program} {src dst : TypeId} {x r : Value} {w : World} (h : convV P src dst x (· = r)) : (Go.convert src dst x).run P w = .ok r w ∧ r.oneCell' = true := by
  unfold convV at h
  obtain ⟨h0, h⟩ := h
  obtain ⟨d, hd⟩ := Option.isSome_iff_exists.1 h0
  split at h
  · rename_i k _ n e
    subst h
    exact ⟨by simp [Go.convert, run_underlying hd, run_underlying e, Conv.intToInt], rfl⟩
  · exact h.elim

/-- What a value bears for the next state. -/
structure Told (w : World) (I : Nat → Prop) (s : S) (ρ : Nat → Value) (v : Value) (t : T) : Prop where
  rep : RepV w I ρ v t
  blocks : ∀ i, t.blocks w v i = none
  tgt : ∀ y, t.target = some y → s.isVar y = true
theorem Told.one {w : World} {I : Nat → Prop} {s : S} {ρ : Nat → Value} {v : Value} {d : D} (h : RepD w I d v) : Told w I s ρ v (.one d) := ⟨h, fun _ => rfl, fun _ e => by cases e⟩
theorem Told.agg {w : World} {I : Nat → Prop} {s : S} {ρ : Nat → Value} {cs : Array Value} {ds : List D} (h : RepL w I ds cs.toList) : Told w I s ρ (.agg cs) (.agg ds) := ⟨⟨cs, rfl, h⟩, fun _ => rfl, fun _ e => by cases e⟩
theorem Told.v {w : World} {I : Nat → Prop} {s : S} {ρ : Nat → Value} {v : Value} (h : v.oneCell' = true) : Told w I s ρ v (.one (.v v)) := Told.one (.v v h)

section
variable {P : Program} {w0 w : World} {ext I : Nat → Prop} {s : S} {ts : Array Value} {ds : List Deferred}

theorem qMove_sound (inv : Inv w0 ext I s ts w) {x : Operand} {t : T} (h : qMove (ev s x) (· = t)) : Told w I s (val ts) (Act.eval ⟨ts, ds⟩ x) t := by
  have hr := opd_sound (ds := ds) inv x
  have ht : ∀ y, (opd s x).target = some y → s.isVar y = true := fun y e => opd_target inv x e
  unfold qMove at h
  have e : (ev s x).t = opd s x := rfl
  rw [e] at h
  split at h
  · exact h.elim
  · exact h.elim
  · rename_i cs e1
    obtain ⟨hp, rfl⟩ := h
    rw [e1] at hr
    refine ⟨hr, fun i => ?_, fun y e => by cases e⟩
    unfold T.blocks
    dsimp only
    split
    · rename_i rows vs h1 h2
      have := List.all_eq_true.1 hp _ (List.mem_of_getElem? h1)
      cases this
    · rfl
  · exact h.elim
  · rename_i h1 h2 h3 h4
    subst h
    refine ⟨hr, fun i => ?_, ht⟩
    cases hh : opd s x <;> first
      | rfl
      | (exfalso; first | exact h1 hh | exact h2 _ hh | exact h3 _ hh | exact h4 _ _ hh)

theorem ev_one (inv : Inv w0 ext I s ts w) {x : Operand} {d : D} (h : (ev s x).t = .one d) : RepD w I d (Act.eval ⟨ts, ds⟩ x) := by
  have hr := opd_sound (ds := ds) inv x
  rw [show opd s x = .one d from h] at hr
  exact hr
theorem ev_v (inv : Inv w0 ext I s ts w) {x : Operand} {v : Value} (h : (ev s x).t = .one (.v v)) : Act.eval ⟨ts, ds⟩ x = v := (ev_one (ds := ds) inv h).v_inv.1
theorem ev_agg (inv : Inv w0 ext I s ts w) {x : Operand} {es : List D} (h : (ev s x).t = .agg es) : ∃ cs, Act.eval ⟨ts, ds⟩ x = .agg cs ∧ RepL w I es cs.toList := by
  have hr := opd_sound (ds := ds) inv x
  rw [show opd s x = .agg es from h] at hr
  exact hr
theorem ev_el (inv : Inv w0 ext I s ts w) {x : Operand} {cells : List D} (h : (ev s x).t = .el cells) :
    ∃ b o vs, Act.eval ⟨ts, ds⟩ x = .pointer (some ⟨b, o, none⟩) ∧ (cells ≠ [] → I b) ∧ RepL w I cells vs ∧ ∀ (j : Nat) (v : Value), vs[j]? = some v → w.cell? ⟨b, o + j, none⟩ = some v := by
  have hr := opd_sound (ds := ds) inv x
  rw [show opd s x = .el cells from h] at hr
  exact hr
theorem ev_bref (inv : Inv w0 ext I s ts w) {x : Operand} {y off : Nat} {cells : List Leaf} (h : (ev s x).t = .bref y off) (hc : (ev s x).c = .box cells) :
    ∃ b e cs, val ts y = .pointer (some ⟨b, 0, none⟩) ∧ Act.eval ⟨ts, ds⟩ x = .pointer (some ⟨b, off, none⟩) ∧ w.heap[b]? = some (.cells cs e (0, 0)) ∧ cs.size = cells.length ∧
      ∀ (j : Nat) (lf : Leaf), cells[j]? = some lf → RepLf w I (cs.getD j undef) lf := by
  have hr := opd_sound (ds := ds) inv x
  rw [show opd s x = .bref y off from h] at hr
  obtain ⟨h1, h2⟩ := ev_c inv x (y := y) (by rw [h]; rfl)
  rw [hc] at h2
  obtain ⟨b, e1, e2⟩ := hr
  obtain ⟨b', e, cs, e3, e4, e5, e6⟩ := h2
  rw [e1] at e3
  simp only [Value.pointer.injEq, Option.some.injEq, Addr.mk.injEq, and_true] at e3
  subst e3
  exact ⟨b, e, cs, e1, e2, e4, e5, e6⟩
theorem ev_oref (inv : Inv w0 ext I s ts w) {x : Operand} {y sz i off sz' : Nat} {rows : List (List D)} (h : (ev s x).t = .oref y sz i off) (hc : (ev s x).c = .own sz' rows) :
    ∃ b n c, val ts y = .slice (some ⟨b, 0, none⟩) n c ∧ Act.eval ⟨ts, ds⟩ x = .pointer (some ⟨b, i * sz + off, none⟩) ∧ OwnL w I (val ts y) sz' rows := by
  have hr := opd_sound (ds := ds) inv x
  rw [show opd s x = .oref y sz i off from h] at hr
  obtain ⟨h1, h2⟩ := ev_c inv x (y := y) (by rw [h]; rfl)
  rw [hc] at h2
  obtain ⟨b, n, c, e1, e2⟩ := hr
  exact ⟨b, n, c, e1, e2, h2⟩

/-- Of what a list is, whoever owns it. -/
def Owned (s : S) (w : World) (ts : Array Value) (b : Nat) : Prop := ∃ x i, (s.get x).blocks w (val ts x) i = some b
theorem opd_own {x : Operand} {sz : Nat} {rows : List (List D)} (h : opd s x = .own sz rows) : ∃ t, x = .tmp t ∧ s.get t = .own sz rows ∧ s.isVar t = false := by
  cases x with
  | tmp t =>
    unfold opd at h
    simp only [] at h
    split at h
    · rename_i sz' rows' hg
      split at h
      · cases h
      · rename_i hv; cases h; exact ⟨t, rfl, hg, by simpa using hv⟩
    · split at h <;> cases h
    · rename_i h1 h2; exact absurd h (h1 sz rows)
  | const v => exfalso; unfold opd at h; simp only [] at h; unfold cT at h; split at h <;> first | cases h | (split at h <;> cases h)
  | func f => cases h
  | global g => cases h

theorem arg_sound (inv : Inv w0 ext I s ts w) {x : Operand} {a : Arg} (h : (ev s x).arg = some a) : ArgRep w (fun b => I b ∨ Owned s w ts b) (Act.eval ⟨ts, ds⟩ x) a := by
  have hr := opd_sound (ds := ds) inv x
  have hmono : ∀ b, I b → I b ∨ Owned s w ts b := fun _ e => .inl e
  have et : (ev s x).t = opd s x := rfl
  unfold R.arg at h
  rw [et] at h
  split at h
  · rename_i d e1
    rw [e1] at hr
    cases h
    exact ⟨d, rfl, RepD.mono (fun _ _ => rfl) hmono hr⟩
  · rename_i es e1
    rw [e1] at hr
    cases h
    obtain ⟨cs, e2, e3⟩ := hr
    exact ⟨cs, e2, e3.mono (fun _ _ => rfl) hmono⟩
  · rename_i sz rows e1
    rw [e1] at hr
    cases h
    obtain ⟨t, rfl, hg, _⟩ := opd_own e1
    exact ⟨_, rfl, OwnL.data hr hmono (fun b hb => .inr ⟨t, 0, by rw [hg]; simp only [T.blocks, if_true]; exact hb⟩)⟩
  · rename_i y sz rows e1 e2
    rw [e1] at hr
    cases h
    obtain ⟨h1, h2⟩ := ev_c inv x (y := y) (by rw [et, e1]; rfl)
    rw [e2] at h1 h2
    have hr : Act.eval ⟨ts, ds⟩ x = val ts y := hr
    rw [hr]
    exact ⟨_, rfl, OwnL.data h2 hmono (fun b hb => .inr ⟨y, 0, by rw [← h1]; simpa [T.blocks] using hb⟩)⟩
  · rename_i y d e1 e2
    rw [e1] at hr
    cases h
    obtain ⟨h1, h2⟩ := ev_c inv x (y := y) (by rw [et, e1]; rfl)
    rw [e2] at h2
    have hr : Act.eval ⟨ts, ds⟩ x = val ts y := hr
    rw [hr]
    exact ⟨d, rfl, RepD.mono (fun _ _ => rfl) hmono h2⟩
  · rename_i y off cells e1 e2
    split at h
    · rename_i rows e3
      cases h
      rw [e1] at hr
      obtain ⟨h1, h2⟩ := ev_c inv x (y := y) (by rw [et, e1]; rfl)
      rw [e2] at h1 h2
      obtain ⟨b, f1, f2⟩ := hr
      obtain ⟨b', e, cs, g1, g2, g3, g4⟩ := h2
      rw [f1] at g1
      simp only [Value.pointer.injEq, Option.some.injEq, Addr.mk.injEq, and_true] at g1
      subst g1
      have hlt : off < cs.size := by rw [g3]; exact (List.getElem?_eq_some_iff.1 e3).1
      have hcell : w.cell? ⟨b, off, none⟩ = some (cs.getD off undef) := by
        simp [World.cell?, g2, Array.getD_eq_getD_getElem?, Array.getElem?_eq_getElem hlt]
      rw [hcell] at f2
      have f2 := Option.some.inj f2
      have g5 := g4 off _ e3
      rw [f2] at g5
      refine ⟨_, rfl, OwnL.data g5 hmono (fun b2 hb => .inr ⟨y, off + 1, ?_⟩)⟩
      rw [← h1]
      simp [T.blocks, e3, f1, ptrBlock, hcell, f2, hb]
    · cases h
  · cases h

theorem plain_sound (inv : Inv w0 ext I s ts w) {x : Operand} {a : Arg} (h : (ev s x).arg = some a) (hp : (ev s x).plain = true) : ArgRep w I (Act.eval ⟨ts, ds⟩ x) a := by
  have hr := opd_sound (ds := ds) inv x
  have et : (ev s x).t = opd s x := rfl
  unfold R.plain at hp
  rw [et] at hp
  unfold R.arg at h
  rw [et] at h
  split at hp
  · rename_i d e1
    rw [e1] at hr h
    cases h
    exact ⟨d, rfl, hr⟩
  · rename_i es e1
    rw [e1] at hr h
    cases h
    exact hr
  · cases hp

/-- A list's length. -/
theorem lst_sound (inv : Inv w0 ext I s ts w) {x : Operand} {rows : List (List D)} (h : (ev s x).lst = some rows) : ∃ a c, Act.eval ⟨ts, ds⟩ x = .slice a rows.length c ∧ RepD w (fun b => I b ∨ Owned s w ts b) (.l rows) (Act.eval ⟨ts, ds⟩ x) := by
  have ha : (ev s x).arg = some (false, [.l rows]) := by
    unfold R.lst at h
    unfold R.arg
    split at h
    · rename_i e; cases h; simp [e]
    · rename_i e; cases h; simp [e]
    · rename_i e1 e2; cases h; simp [e1, e2]
    · rename_i e1 e2; cases h; simp [e1, e2]
    · rename_i e1 e2; split at h
      · rename_i e3; cases h; simp [e1, e2, e3]
      · cases h
    · cases h
  obtain ⟨d, h1, h2⟩ := arg_sound (ds := ds) inv ha
  simp only [List.cons.injEq, and_true] at h1
  subst h1
  have : ∃ a c, Act.eval ⟨ts, ds⟩ x = .slice a rows.length c := by
    generalize Act.eval ⟨ts, ds⟩ x = u at h2
    cases h2
    exact ⟨_, _, rfl⟩
  obtain ⟨a, c, e⟩ := this
  exact ⟨a, c, e, h2⟩

end

end Go.Ax

/- The quiet operations but calls: each runs, and its value is what is told. -/
set_option linter.unusedVariables false
set_option linter.unusedSimpArgs false
namespace Go.Ax
open Go

section
variable {P : Program} {w0 w : World} {ext I : Nat → Prop} {s : S} {ts : Array Value} {ds : List Deferred}

theorem qLoad_sound {t : TypeId} {cells : List D} {r : T} (h : qLoad P t cells (· = r)) {b o : Nat} {vs : List Value} (hr : RepL w I cells vs)
    (hc : ∀ (j : Nat) (v : Value), vs[j]? = some v → w.cell? ⟨b, o + j, none⟩ = some v) : ∃ v, (loadVar t ⟨b, o, none⟩).run P w = .ok v w ∧ Told w I s (val ts) v r := by
  obtain ⟨h0, h⟩ := h
  obtain ⟨l1, l2⟩ := run_loadVar' (P := P) h0 hc
  split at h
  · rename_i ha
    obtain ⟨h1, rfl⟩ := h
    exact ⟨_, l1 ha (by rw [← hr.1]; exact h1), Told.agg (by simpa using hr.take (P.cellsOf t))⟩
  · rename_i ha
    cases cells with
    | nil => exact h.elim
    | cons d cs =>
      simp only at h
      subst h
      obtain ⟨v, vs', rfl, hd, _⟩ := hr.cons_inv
      exact ⟨v, l2 (by simpa using ha) v rfl, Told.one hd⟩

theorem box_cell {b : Nat} {e : TypeId} {cs : Array Value} (h : w.heap[b]? = some (.cells cs e (0, 0))) {j : Nat} (hj : j < cs.size) : w.cell? ⟨b, j, none⟩ = some (cs.getD j undef) := by
  simp [World.cell?, h, Array.getD_eq_getD_getElem?, Array.getElem?_eq_getElem hj]

theorem leafD_sound {cells : List Leaf} {ds : List D} (h : leafD cells = some ds) : cells.length = ds.length ∧ ∀ (j : Nat) (d : D), ds[j]? = some d → cells[j]? = some (.d d) ∨ (d = .l [] ∧ ∃ sz, cells[j]? = some (.own sz [])) := by
  induction cells generalizing ds with
  | nil => simp [leafD] at h; subst h; simp
  | cons c cells ih =>
    cases c with
    | d x =>
      simp only [leafD, Option.map_eq_some_iff] at h
      obtain ⟨es, h1, rfl⟩ := h
      obtain ⟨h2, h3⟩ := ih h1
      refine ⟨by simp [h2], fun j d hj => ?_⟩
      cases j with
      | zero => left; simpa using hj
      | succ j => simpa using h3 j d (by simpa using hj)
    | own sz rows =>
      cases rows with
      | cons r rs => cases h
      | nil =>
        simp only [leafD, Option.map_eq_some_iff] at h
        obtain ⟨es, h1, rfl⟩ := h
        obtain ⟨h2, h3⟩ := ih h1
        refine ⟨by simp [h2], fun j d hj => ?_⟩
        cases j with
        | zero => right; exact ⟨by simpa using hj.symm, sz, by simp⟩
        | succ j => simpa using h3 j d (by simpa using hj)
    | hole => cases h
theorem OwnL.empty {v : Value} {sz : Nat} (h : OwnL w I v sz []) : RepD w I (.l []) v := by
  rcases h with ⟨rfl, _⟩ | ⟨h0, e, xs, h1, h2, h3⟩
  · exact RepD.l_nil w I none 0 (by simp)
  rcases h1.2 with ⟨rfl, hn⟩ | ⟨g, cap, cur, rfl, _, hgg, hcap, hmax, hcs, htake⟩
  · exact RepD.l_nil w I none 0 (by simp)
  · exact RepD.l_nil w I _ cap hmax

theorem load_box {cells : List Leaf} {ds : List D} {off n : Nat} (h : leafD ((cells.drop off).take n) = some ds) {b : Nat} {e : TypeId} {cs : Array Value} (h2 : w.heap[b]? = some (.cells cs e (0, 0))) (h3 : cs.size = cells.length)
    (h4 : ∀ (j : Nat) (lf : Leaf), cells[j]? = some lf → RepLf w I (cs.getD j undef) lf) : RepL w I ds ((cs.toList.drop off).take n) ∧ ∀ (j : Nat) (v : Value), ((cs.toList.drop off).take n)[j]? = some v → w.cell? ⟨b, off + j, none⟩ = some v := by
  obtain ⟨g1, g2⟩ := leafD_sound h
  constructor
  · refine ⟨?_, fun j d v e1 e2 => ?_⟩
    · rw [← g1]; simp [h3]
    · have key : ∀ lf, ((cells.drop off).take n)[j]? = some lf → RepLf w I v lf := by
        intro lf e3
        rw [List.getElem?_take] at e3 e2
        split at e3
        · rename_i hj
          rw [if_pos hj, List.getElem?_drop] at e2
          rw [List.getElem?_drop] at e3
          have := h4 _ _ e3
          have e4 : cs.getD (off + j) undef = v := by
            rw [Array.getElem?_toList] at e2
            simp [Array.getD_eq_getD_getElem?, e2]
          rw [e4] at this
          exact this
        · cases e3
      rcases g2 j d e1 with e3 | ⟨rfl, sz, e3⟩
      · exact key _ e3
      · exact OwnL.empty (key _ e3)
  · intro j v e2
    rw [List.getElem?_take] at e2
    split at e2
    · rw [List.getElem?_drop, Array.getElem?_toList] at e2
      have hlt : off + j < cs.size := (Array.getElem?_eq_some_iff.1 e2).1
      rw [box_cell h2 hlt]
      simp [Array.getD_eq_getD_getElem?, e2]
    · cases e2

theorem own_cells {y : Value} {rows : List (List D)} {b n c sz' : Nat} (ho : OwnL w I y sz' rows) (hy : y = .slice (some ⟨b, 0, none⟩) n c) {i sz : Nat} {row : List D} (hrow : rows[i]? = some row) (hsz : row.length = sz) :
    ∃ vs, RepL w I row vs ∧ ∀ (j : Nat) (v : Value), vs[j]? = some v → w.cell? ⟨b, i * sz + j, none⟩ = some v := by
  rcases ho with ⟨e, rfl⟩ | ⟨h0, e, xs, h1, h2, h3⟩
  · simp at hrow
  have hz : sz' = sz := by rw [← h2 row (List.mem_of_getElem? hrow), hsz]
  subst hz
  subst hy
  have hi : i < rows.length := (List.getElem?_eq_some_iff.1 hrow).1
  have hn : n = rows.length := by
    rcases h1.2 with ⟨h', _⟩ | ⟨g', cap', cur, h', _⟩
    · cases h'
    · simp only [Value.slice.injEq] at h'; exact h'.2.1
  subst hn
  have hle : (i + 1) * sz' ≤ rows.length * sz' := Nat.mul_le_mul_right _ hi
  refine ⟨(xs.drop (i * sz')).take sz', ⟨?_, fun j d v e1 e2 => ?_⟩, fun j v e2 => ?_⟩
  · rw [List.length_take, List.length_drop, h1.1, hsz]
    rw [Nat.succ_mul] at hle
    omega
  · have hj : j < sz' := by rw [← hsz]; exact (List.getElem?_eq_some_iff.1 e1).1
    rw [List.getElem?_take, if_pos hj, List.getElem?_drop] at e2
    refine h3.2 (i * sz' + j) d v ?_ e2
    rw [getElem?_flatten h2 hi hj, hrow]
    exact e1
  · rw [List.getElem?_take] at e2
    split at e2
    · rename_i hj
      rw [List.getElem?_drop] at e2
      rw [h1.cellAt (i * sz' + j) (by rw [Nat.succ_mul] at hle; omega)]
      exact e2
    · cases e2

theorem ro_cells {a : Option Addr} {rows : List (List D)} {n c : Nat} (h : RepD w I (.l rows) (.slice a n c)) {i sz : Nat} {row : List D} (hrow : rows[i]? = some row) (hsz : row.length = sz) :
    ∃ b o vs, a = some ⟨b, o, none⟩ ∧ I b ∧ RepL w I row vs ∧ ∀ (j : Nat) (v : Value), vs[j]? = some v → w.cell? ⟨b, o + i * sz + j, none⟩ = some v := by
  cases h with
  | l _ sz' _ _ vals hl hc hm ha hv =>
    have hi : i < rows.length := (List.getElem?_eq_some_iff.1 hrow).1
    have hz : sz' = sz := by rw [← hl row (List.mem_of_getElem? hrow), hsz]
    subst hz
    obtain ⟨b, o, h1, h2, h3⟩ := ha (by rintro rfl; simp at hi)
    refine ⟨b, o, (List.range sz').map (vals i), h1, h2, ⟨by simp [hsz], fun j d v e1 e2 => ?_⟩, fun j v e2 => ?_⟩
    · have hj : j < sz' := by rw [← hsz]; exact (List.getElem?_eq_some_iff.1 e1).1
      simp [hj] at e2
      subst e2
      exact hv i row hrow j d e1
    · have hj : j < sz' := by
        have := (List.getElem?_eq_some_iff.1 e2).1
        simpa using this
      simp [hj] at e2
      subst e2
      exact h3 i j hi hj

theorem partD_sound {t : TypeId} {es : List D} {off : Nat} {r : T} (h : partD P t es off (· = r)) {cs : Array Value} (hr : RepL w I es cs.toList) : ∃ v, (part t cs off).run P w = .ok v w ∧ Told w I s (val ts) v r := by
  obtain ⟨h0, h⟩ := h
  obtain ⟨i, hi⟩ := info_of_underlying h0
  split at h
  · rename_i ha
    obtain ⟨h1, rfl⟩ := h
    refine ⟨.agg (cs.extract off (off + P.cellsOf t)), by simp only [part, Sem.run_bind, run_isAgg' h0, Result.andThen_ok, ha, if_true, run_sizeOf' hi, Sem.run_pure], Told.agg ?_⟩
    have e : (cs.extract off (off + P.cellsOf t)).toList = (cs.toList.drop off).take (P.cellsOf t) := by
      rw [Array.toList_extract, List.extract_eq_take_drop, Nat.add_sub_cancel_left]
    rw [e]
    exact (hr.drop off).take (P.cellsOf t)
  · rename_i ha
    split at h
    · rename_i d hd
      subst h
      obtain ⟨v, hv, hrep⟩ := hr.at hd
      rw [Array.getElem?_toList] at hv
      refine ⟨v, ?_, Told.one hrep⟩
      simp only [part, Sem.run_bind, run_isAgg' h0, Result.andThen_ok, show isAggT P t = false by simpa using ha, Bool.false_eq_true, if_false, hv, Sem.run_pure]
    · exact h.elim

theorem foldMM_sound {max : Bool} : ∀ (l : List (Option D)) (vs : List Value) (acc : IntKind × Int) {r : IntKind × Int}, foldMM max l (some acc) = some r →
    (∀ (j : Nat) (o : Option D) (v : Value), l[j]? = some o → vs[j]? = some v → ∀ d, o = some d → RepD w I d v) → l.length = vs.length →
    (vs.foldlM (if max then Builtin.max2 else Builtin.min2) (.int acc.1 acc.2)).run P w = .ok (.int r.1 r.2) w := by
  intro l
  induction l with
  | nil =>
    intro vs acc r h _ hl
    obtain rfl : vs = [] := List.eq_nil_of_length_eq_zero hl.symm
    simp only [foldMM, Option.some.injEq] at h
    subst h
    rfl
  | cons o l ih =>
    intro vs acc r h hr hl
    obtain ⟨v, vs, rfl⟩ : ∃ v vs', vs = v :: vs' := by cases vs with | nil => simp at hl | cons v vs => exact ⟨v, vs, rfl⟩
    obtain ⟨k', m⟩ := acc
    cases o with
    | none => simp [foldMM] at h
    | some d => cases d with
      | l rows => simp [foldMM] at h
      | p _ => simp [foldMM] at h
      | c _ _ => simp [foldMM] at h
      | v x => cases x with
        | int k n =>
          simp only [foldMM] at h
          have hv' := (hr 0 _ v rfl rfl _ rfl).v_inv.1
          subst hv'
          rw [List.foldlM_cons]
          have := ih vs _ h (fun j o v h1 h2 => hr (j + 1) o v (by simpa using h1) (by simpa using h2)) (by simpa using hl)
          cases max
          · simp only [Bool.false_eq_true, if_false, Builtin.min2, Sem.run_bind, Sem.run_pure, Result.andThen_ok] at this ⊢
            exact this
          · simp only [if_true, Builtin.max2, Sem.run_bind, Sem.run_pure, Result.andThen_ok] at this ⊢
            exact this
        | _ => simp [foldMM] at h

theorem foldMM_run {max : Bool} {l : List (Option D)} {vs : List Value} {r : IntKind × Int} (h : foldMM max l none = some r)
    (hr : ∀ (j : Nat) (o : Option D) (v : Value), l[j]? = some o → vs[j]? = some v → ∀ d, o = some d → RepD w I d v) (hl : l.length = vs.length) :
    ∃ v0 rest, vs = v0 :: rest ∧ (rest.foldlM (if max then Builtin.max2 else Builtin.min2) v0).run P w = .ok (.int r.1 r.2) w := by
  cases l with
  | nil => simp [foldMM] at h
  | cons o l =>
    obtain ⟨v, vs, rfl⟩ : ∃ v vs', vs = v :: vs' := by cases vs with | nil => simp at hl | cons v vs => exact ⟨v, vs, rfl⟩
    cases o with
    | none => simp [foldMM] at h
    | some d => cases d with
      | l rows => simp [foldMM] at h
      | p _ => simp [foldMM] at h
      | c _ _ => simp [foldMM] at h
      | v x => cases x with
        | int k n =>
          simp only [foldMM] at h
          have hv' := (hr 0 _ v rfl rfl _ rfl).v_inv.1
          subst hv'
          exact ⟨_, vs, rfl, foldMM_sound l vs (k, n) h (fun j o v h1 h2 => hr (j + 1) o v (by simpa using h1) (by simpa using h2)) (by simpa using hl)⟩
        | _ => simp [foldMM] at h

def isCall : Op → Bool
  | .call { callee := .value _, .. } => true
  | _ => false

/-- A cut of a list that nobody writes. -/
theorem ro_cut {a : Option Addr} {rows : List (List D)} {c sz l h m : Nat} (hr : RepD w I (.l rows) (.slice a rows.length c)) (hs : ∀ r ∈ rows, r.length = sz) (hlh : l ≤ h) (hhm : h ≤ m) (hm : m ≤ c) (hh : h ≤ rows.length) :
    RepD w I (.l ((rows.take h).drop l)) (.slice (if m = l then a else a.map (·.add (l * sz))) (h - l) (m - l)) := by
  cases hr with
  | l _ sz' _ _ vals hl hc hmx ha hv =>
    have hlen : ((rows.take h).drop l).length = h - l := by rw [List.length_drop, List.length_take, Nat.min_eq_left hh]
    rw [← hlen]
    have hget : ∀ i r, ((rows.take h).drop l)[i]? = some r → rows[l + i]? = some r ∧ l + i < h := by
      intro i r e
      rw [List.getElem?_drop, List.getElem?_take] at e
      split at e
      · exact ⟨e, by assumption⟩
      · cases e
    refine .l _ sz _ _ (fun i j => vals (l + i) j) (fun r e => hs r ?_) (by rw [hlen]; omega) (Nat.le_trans (Nat.sub_le _ _) (Nat.le_trans hm hmx)) (fun hn => ?_) (fun i r e j d e2 => ?_)
    · exact List.mem_of_mem_take (List.mem_of_mem_drop e)
    · have hpos : l < h := by
        rcases Nat.lt_or_ge l h with h' | h'
        · exact h'
        · exact absurd (List.eq_nil_of_length_eq_zero (by rw [hlen]; omega)) hn
      have hne : rows ≠ [] := by rintro rfl; simp at hh; omega
      obtain ⟨b, o, rfl, h2, h3⟩ := ha hne
      have hz : sz' = sz := by
        obtain ⟨r, hr⟩ : ∃ r, r ∈ rows := List.exists_mem_of_ne_nil _ hne
        rw [← hl r hr, hs r hr]
      subst hz
      rw [if_neg (by omega)]
      refine ⟨b, o + l * sz', by simp [addr_add], h2, fun i j hi hj => ?_⟩
      rw [hlen] at hi
      have := h3 (l + i) j (by omega) hj
      rw [Nat.add_mul] at this
      rw [← this]
      congr 2
      omega
    · obtain ⟨e3, _⟩ := hget i r e
      exact hv (l + i) r e3 j d e2

theorem run_slice_of {t e : TypeId} (hu : P.underlying t = some (.slice e)) (hi : (P.info? e).isSome = true) {a : Option Addr} {n c l h m : Nat} {lo hi' mx : Option Value}
    (h1 : (lo = none ∧ l = 0) ∨ ∃ k, lo = some (.int k l)) (h2 : (hi' = none ∧ h = n ∧ mx = none) ∨ ∃ k, hi' = some (.int k h)) (h3 : (mx = none ∧ m = c) ∨ ∃ k, mx = some (.int k m)) (hlh : l ≤ h) (hhm : h ≤ m) (hmc : m ≤ c) :
    (Instr.sliceAt t (.slice a n c) lo hi' mx).run P w = .ok (.slice (if m = l then a else a.map (·.add (l * P.cellsOf e))) (h - l) (m - l)) w := by
  obtain ⟨i, hi⟩ := Option.isSome_iff_exists.1 hi
  have hel : P.elem t = e := by simp [Program.elem, hu]
  have hb : ∀ (k : IntKind) (x y : Nat) (code : BoundsCode), x ≤ y → (Instr.sliceBound (.int k x) y code).run P w = .ok x w := by
    intro k x y code hxy
    have := run_sliceBound (P := P) (w := w) k (x : Int) y code (by omega) (by omega)
    simpa using this
  have hsb : (Instr.sliceBounds true n c lo hi' mx).run P w = .ok (l, h, m) w := by
    unfold Instr.sliceBounds
    rcases h3 with ⟨rfl, rfl⟩ | ⟨km, rfl⟩
    · rcases h2 with ⟨rfl, rfl, _⟩ | ⟨kh, rfl⟩ <;> rcases h1 with ⟨rfl, rfl⟩ | ⟨kl, rfl⟩ <;> simp [hb, hlh, hhm, hmc]
    · rcases h2 with ⟨_, _, e⟩ | ⟨kh, rfl⟩
      · cases e
      · rcases h1 with ⟨rfl, rfl⟩ | ⟨kl, rfl⟩ <;> simp [hb, hlh, hhm, hmc]
  unfold Instr.sliceAt
  simp only [Sem.run_bind, run_underlying hu, Result.andThen_ok]
  unfold Instr.slice
  simp only [Sem.run_bind, run_underlying hu, Result.andThen_ok, hsb, run_sizeOf' hi, Sem.run_pure]

end

end Go.Ax

/- The quiet operations but calls, all together. -/
set_option linter.unusedVariables false
set_option linter.unusedSimpArgs false
namespace Go.Ax
open Go

section
variable {P : Program} {w0 w : World} {ext I : Nat → Prop} {s : S} {ts : Array Value} {ds : List Deferred}

theorem execOp_v (o : Oper) {m : Sem Value} {v : Value} (h : execOp (Act.eval ⟨ts, ds⟩) o = (do pure (.value (← m)))) (hm : m.run P w = .ok v w) : (execOp (Act.eval ⟨ts, ds⟩) o).run P w = .ok (.value v) w := by
  rw [h, Sem.run_bind, hm]
  rfl

theorem run_sureAddr (b o : Nat) : (Instr.sureAddr (.pointer (some ⟨b, o, none⟩))).run P w = .ok ⟨b, o, none⟩ w := rfl

theorem ev_el' (inv : Inv w0 ext I s ts w) {x : Operand} {cells : List D} (h : (ev s x).t = .el cells) : RepD w I (.p cells) (Act.eval ⟨ts, ds⟩ x) := by
  obtain ⟨b, o, vs, h1, h2, h3, h4⟩ := ev_el (ds := ds) inv h
  rw [h1]
  have hl : cells.length = vs.length := h3.1
  refine .p cells b o (fun j => vs.getD j undef) h2 (fun j hj => ?_) (fun j d hd => ?_)
  · exact h4 j _ (by rw [List.getD_eq_getElem?_getD, List.getElem?_eq_getElem (by omega)]; rfl)
  · have hj : j < vs.length := by rw [← hl]; exact (List.getElem?_eq_some_iff.1 hd).1
    exact h3.2 j d _ hd (by rw [List.getD_eq_getElem?_getD, List.getElem?_eq_getElem hj]; rfl)
theorem capsD_rep (inv : Inv w0 ext I s ts w) : ∀ {xs : List Operand} {cds : List D}, capsD (ev s) xs = some cds → RepL w I cds (xs.map (Act.eval ⟨ts, ds⟩))
  | [], cds, h => by simp [capsD] at h; subst h; exact RepL.nil _ _
  | x :: xs, cds, h => by
    simp only [capsD] at h
    split at h <;> try cases h
    rename_i cells ds' h1 h2
    exact RepL.cons (ev_el' inv h1) (capsD_rep inv h2)
theorem capsD_sound (inv : Inv w0 ext I s ts w) {xs : Array Operand} {cds : List D} {g : FuncId} (h : capsD (ev s) xs.toList = some cds) : RepD w I (.c g cds) (.func (.func g) #[] (xs.map (Act.eval ⟨ts, ds⟩))) := by
  have hr := capsD_rep (ds := ds) inv h
  refine .c g cds _ (by have := hr.1; simpa using this) (fun j d hd => ?_)
  have hj : j < xs.size := by have := (List.getElem?_eq_some_iff.1 hd).1; have := hr.1; simp at this; omega
  refine hr.2 j d _ hd ?_
  simp [Array.getD_eq_getD_getElem?, hj]
theorem qOp_sound (inv : Inv w0 ext I s ts w) {o : Oper} {r : T} (h : qOp P o.op (ev s) (· = r)) (hc : isCall o.op = false) :
    ∃ v, (execOp (Act.eval ⟨ts, ds⟩) o).run P w = .ok (.value v) w ∧ Told w I s (val ts) v r := by
  have eq_of : ∀ {x : Operand} {t : T}, (ev s x).t = t → opd s x = t := fun e => e
  obtain ⟨dst, op, type, pos, after, guard⟩ := o
  cases op <;> simp only [qOp] at h <;> try exact h.elim
  case move x => exact ⟨_, rfl, qMove_sound inv h⟩
  case pick c a b =>
    split at h
    · rename_i β e
      have hv := ev_v (ds := ds) inv e
      cases β with
      | true => exact ⟨Act.eval ⟨ts, ds⟩ a, by simp [execOp, hv, asBool], qMove_sound inv (h.1 rfl)⟩
      | false => exact ⟨Act.eval ⟨ts, ds⟩ b, by simp [execOp, hv, asBool], qMove_sound inv (h.2 rfl)⟩
    · exact h.elim
  case binOp bop t x y yt =>
    split at h
    · rename_i a b ea eb
      obtain ⟨z, h1, rfl⟩ := binV_one h
      obtain ⟨h2, h3, h4⟩ := binV_sound (P := P) (w := w) h1
      refine ⟨z, ?_, Told.v h3⟩
      refine execOp_v _ rfl ?_
      rw [ev_v (ds := ds) inv ea, ev_v (ds := ds) inv eb, Sem.run_bind, h4 x y, Result.andThen_ok, h2]
    · rename_i es fs ea eb
      obtain ⟨β, ⟨hg, h0⟩, h⟩ := h
      obtain ⟨cs, e1, e2⟩ := ev_agg (ds := ds) inv ea
      obtain ⟨ds', e3, e4⟩ := ev_agg (ds := ds) inv eb
      have heq := h0 w I cs.toList ds'.toList e2 e4
      simp only [Array.toArray_toList] at heq
      have hgd := run_eqGuard_agg (P := P) w bop t x y cs ds' hg
      cases bop <;> simp only at h <;> first
        | exact h.elim
        | skip
      · subst h
        refine ⟨.bool β, execOp_v _ rfl ?_, Told.v rfl⟩
        rw [e1, e3, Sem.run_bind, hgd, Result.andThen_ok, show Go.binOp .eql t (.agg cs) (.agg ds') = (do pure (.bool (← Op.equal t (.agg cs) (.agg ds')))) from rfl, Sem.run_bind, heq]
        rfl
      · subst h
        refine ⟨.bool (!β), execOp_v _ rfl ?_, Told.v rfl⟩
        rw [e1, e3, Sem.run_bind, hgd, Result.andThen_ok, show Go.binOp .neq t (.agg cs) (.agg ds') = (do pure (.bool (!(← Op.equal t (.agg cs) (.agg ds'))))) from rfl, Sem.run_bind, heq]
        rfl
    · exact h.elim
  case unOp uop t x =>
    split at h
    · rename_i a ea
      obtain ⟨z, h1, rfl⟩ := unV_one h
      obtain ⟨h2, h3⟩ := unV_sound (P := P) (w := w) h1
      exact ⟨z, execOp_v _ rfl (by rw [ev_v (ds := ds) inv ea, h2]), Told.v h3⟩
    · exact h.elim
  case convert src dst x =>
    split at h
    · rename_i a ea
      obtain ⟨z, h1, rfl⟩ := convV_one h
      obtain ⟨h2, h3⟩ := convV_sound (P := P) (w := w) h1
      exact ⟨z, execOp_v _ rfl (by rw [ev_v (ds := ds) inv ea, h2]), Told.v h3⟩
    · exact h.elim
  case load t a =>
    split at h
    · rename_i cells e1
      obtain ⟨b, o, vs, f1, f2, f3, f4⟩ := ev_el (ds := ds) inv e1
      obtain ⟨v, g1, g2⟩ := qLoad_sound (s := s) (ts := ts) h f3 f4
      exact ⟨v, execOp_v _ rfl (by rw [f1, Instr.loadAt, Sem.run_bind, run_sureAddr, Result.andThen_ok, g1]), g2⟩
    · rename_i y sz i off sz' rows e1 e2
      obtain ⟨b, n, c, f1, f2, f3⟩ := ev_oref (ds := ds) inv e1 e2
      obtain ⟨hi, hsz, h⟩ := h
      have hrow : rows[i]? = some (rows.getD i (zrowAt P t off)) := by simp [List.getD_eq_getElem?_getD, List.getElem?_eq_getElem hi]
      obtain ⟨vs, g1, g2⟩ := own_cells f3 f1 hrow hsz
      have hd : ∀ (j : Nat) (v : Value), (vs.drop off)[j]? = some v → w.cell? ⟨b, i * sz + off + j, none⟩ = some v := by
        intro j v e
        rw [List.getElem?_drop] at e
        have := g2 _ _ e
        rw [← this]
        congr 2
        omega
      obtain ⟨v, k1, k2⟩ := qLoad_sound (s := s) (ts := ts) h (g1.drop off) hd
      exact ⟨v, execOp_v _ rfl (by rw [f2, Instr.loadAt, Sem.run_bind, run_sureAddr, Result.andThen_ok, k1]), k2⟩
    · rename_i y off cells e1 e2
      obtain ⟨b, e, cs, f1, f2, f3, f4, f5⟩ := ev_bref (ds := ds) inv e1 e2
      by_cases ha : isAggT P t = true
      · simp only [if_pos ha] at h
        split at h
        · rename_i es e3
          obtain ⟨g1, g2⟩ := load_box e3 f3 f4 f5
          obtain ⟨v, k1, k2⟩ := qLoad_sound (s := s) (ts := ts) h g1 g2
          exact ⟨v, execOp_v _ rfl (by rw [f2, Instr.loadAt, Sem.run_bind, run_sureAddr, Result.andThen_ok, k1]), k2⟩
        · exact h.elim
      · simp only [if_neg ha] at h
        obtain ⟨h0, h⟩ := h
        have key : ∀ lf, cells[off]? = some lf → ∃ v, (loadVar t ⟨b, off, none⟩).run P w = .ok v w ∧ w.cell? ⟨b, off, none⟩ = some v ∧ RepLf w I v lf := by
          intro lf hlf
          have hlt : off < cs.size := by rw [f4]; exact (List.getElem?_eq_some_iff.1 hlf).1
          have hcell := box_cell f3 hlt
          obtain ⟨_, l2⟩ := run_loadVar' (P := P) (w := w) (b := b) (o := off) (vs := [cs.getD off undef]) h0 (fun j v e => by
            cases j with
            | zero => simp at e; subst e; simpa using hcell
            | succ j => simp at e)
          exact ⟨_, l2 (by simpa using ha) _ rfl, hcell, f5 off lf hlf⟩
        split at h
        · rename_i d hd
          subst h
          obtain ⟨v, k1, k2, k3⟩ := key _ hd
          exact ⟨v, execOp_v _ rfl (by rw [f2, Instr.loadAt, Sem.run_bind, run_sureAddr, Result.andThen_ok, k1]), Told.one k3⟩
        · rename_i sz rows hd
          subst h
          obtain ⟨v, k1, k2, k3⟩ := key _ hd
          exact ⟨v, execOp_v _ rfl (by rw [f2, Instr.loadAt, Sem.run_bind, run_sureAddr, Result.andThen_ok, k1]), ⟨b, f1, k2⟩, fun _ => rfl, fun y' e => by cases e; exact opd_target inv a (y := y) (by rw [eq_of e1]; rfl)⟩
        · exact h.elim
    · exact h.elim
  case makeFunc f first caps =>
    cases f <;> simp only [qOp] at h <;> try exact h.elim
    rename_i g
    obtain ⟨rfl, h⟩ := h
    split at h <;> try exact h.elim
    rename_i cds e1
    subst h
    refine ⟨.func (.func g) #[] (caps.map (Act.eval ⟨ts, ds⟩)), by simp [execOp, Instr.makeFunc], Told.one (capsD_sound (ds := ds) inv e1)⟩
  case nilCheck x =>
    have hr := opd_sound (ds := ds) inv x
    have ht : ∀ y, (opd s x).target = some y → s.isVar y = true := fun y e => opd_target inv x e
    split at h
    · rename_i y off e1
      subst h
      rw [eq_of e1] at hr ht
      obtain ⟨b, f1, f2⟩ := hr
      exact ⟨_, by simp [execOp, f2], ⟨b, f1, f2⟩, fun _ => rfl, ht⟩
    · rename_i cells e1
      subst h
      rw [eq_of e1] at hr
      obtain ⟨b, o, vs, f1, f2⟩ := hr
      exact ⟨_, by simp [execOp, f1], ⟨b, o, vs, f1, f2⟩, fun _ => rfl, fun _ e => by cases e⟩
    · exact h.elim
  case fieldAddr st x f =>
    have hr := opd_sound (ds := ds) inv x
    have ht : ∀ y, (opd s x).target = some y → s.isVar y = true := fun y e => opd_target inv x e
    split at h <;> try exact h.elim
    rename_i fs hu
    split at h <;> try exact h.elim
    rename_i fld hf
    obtain ⟨h0, hpos, h⟩ := h
    obtain ⟨i, hi⟩ := Option.isSome_iff_exists.1 h0
    have key : ∀ b o, (Instr.fieldAt st (.pointer (some ⟨b, o, none⟩)) f).run P w = .ok (.pointer (some ⟨b, o + fld.offset, none⟩)) w := by
      intro b o
      have hne : ¬ P.cellsOf fld.type = 0 := by omega
      simp only [Instr.fieldAt, Sem.run_bind, run_underlying hu, Result.andThen_ok, hf, run_sureAddr, fieldPlace, run_sizeOf' hi, if_neg hne, Sem.run_pure, addr_add]
    split at h
    · rename_i y off e1
      subst h
      rw [eq_of e1] at hr ht
      obtain ⟨b, f1, f2⟩ := hr
      exact ⟨_, execOp_v _ rfl (by rw [f2, key]), ⟨b, f1, rfl⟩, fun _ => rfl, ht⟩
    · rename_i cells e1
      subst h
      rw [eq_of e1] at hr
      obtain ⟨b, o, vs, f1, f2, f3, f4⟩ := hr
      refine ⟨_, execOp_v _ rfl (by rw [f1, key]), ⟨b, _, vs.drop fld.offset, rfl, fun hn => f2 (fun e => hn (by rw [e]; simp)), f3.drop _, fun j v e => ?_⟩, fun _ => rfl, fun _ e => by cases e⟩
      rw [List.getElem?_drop] at e
      rw [← f4 _ _ e]
      congr 2
      omega
    · rename_i y sz i' off e1
      subst h
      rw [eq_of e1] at hr ht
      obtain ⟨b, n, c, f1, f2⟩ := hr
      exact ⟨_, execOp_v _ rfl (by rw [f2, key]), ⟨b, n, c, f1, by rw [Nat.add_assoc]⟩, fun _ => rfl, ht⟩
    · exact h.elim
  case field st x f =>
    split at h <;> try exact h.elim
    rename_i fs hu
    split at h <;> try exact h.elim
    rename_i fld es hf e1
    obtain ⟨cs, g1, g2⟩ := ev_agg (ds := ds) inv e1
    obtain ⟨v, k1, k2⟩ := partD_sound (P := P) (s := s) (ts := ts) h g2
    refine ⟨v, execOp_v _ rfl ?_, k2⟩
    rw [g1]
    simp only [Instr.field, Sem.run_bind, run_underlying hu, Result.andThen_ok, hf, asAgg, Sem.run_pure, k1]
  case indexAddr t x i =>
    have hr := opd_sound (ds := ds) inv x
    have ht : ∀ y, (opd s x).target = some y → s.isVar y = true := fun y e => opd_target inv x e
    split at h <;> try exact h.elim
    rename_i k n ei
    have hiv := ev_v (ds := ds) inv ei
    split at h <;> try exact h.elim
    · rename_i e hu
      obtain ⟨h0, h⟩ := h
      obtain ⟨inf, hinf⟩ := Option.isSome_iff_exists.1 h0
      have hel : P.elem t = e := by simp [Program.elem, hu]
      have key : ∀ b o len cap, 0 ≤ n → n < (len : Nat) → (Instr.indexAt t (.slice (some ⟨b, o, none⟩) len cap) (.int k n)).run P w = .ok (.pointer (some ⟨b, o + n.toNat * P.cellsOf e, none⟩)) w := by
        intro b o len cap h1 h2
        simp only [Instr.indexAt, asIntOf, Sem.run_bind, Sem.run_pure, Result.andThen_ok, run_underlying hu]
        rw [if_pos ⟨h1, h2⟩]
        simp only [Sem.run_bind, run_sizeOf' hinf, Result.andThen_ok, Sem.run_pure, addr_add]
      split at h <;> try exact h.elim
      · rename_i y sz rows e1 e2
        obtain ⟨h1, h2, h3, h⟩ := h
        subst h
        obtain ⟨g1, g2⟩ := ev_c inv x (y := y) (by rw [e1]; rfl)
        rw [e2] at g2
        rw [eq_of e1] at hr ht
        have hr : Act.eval ⟨ts, ds⟩ x = val ts y := hr
        have ho : OwnL w I (val ts y) sz rows := g2
        have hlt : n.toNat < rows.length := by omega
        rcases ho with ⟨_, rfl⟩ | ⟨_, eT, xs, o1, o2, o3⟩
        · simp at hlt
        rcases o1.2 with ⟨hv, hn⟩ | ⟨g, cap, cur, hv, _⟩
        · omega
        · refine ⟨_, execOp_v _ rfl (by rw [hr, hv, hiv, key g 0 rows.length cap h1 h2]), ⟨g, rows.length, cap, hv, by rw [Nat.zero_add, Nat.add_zero]⟩, fun _ => rfl, ht⟩
      · rename_i y rows e1 e2
        obtain ⟨h1, h2, h3, h⟩ := h
        subst h
        obtain ⟨g1, g2⟩ := ev_c inv x (y := y) (by rw [e1]; rfl)
        rw [e2] at g2
        rw [eq_of e1] at hr
        have hr : Act.eval ⟨ts, ds⟩ x = val ts y := hr
        have ho : RepD w I (.l rows) (val ts y) := g2
        obtain ⟨a, cap, hv⟩ : ∃ a c, val ts y = .slice a rows.length c := by
          generalize val ts y = u at ho
          cases ho
          exact ⟨_, _, rfl⟩
        rw [hv] at ho
        have hlt : n.toNat < rows.length := by omega
        have hrow : rows[n.toNat]? = some (rows.getD n.toNat (zrow P e)) := by simp [List.getD_eq_getElem?_getD, List.getElem?_eq_getElem hlt]
        obtain ⟨b, o, vs, rfl, g4, g5, g6⟩ := ro_cells ho hrow h3
        exact ⟨_, execOp_v _ rfl (by rw [hr, hv, hiv, key b o rows.length cap h1 h2]), ⟨b, _, vs, rfl, fun _ => g4, g5, g6⟩, fun _ => rfl, fun _ e => by cases e⟩
      · rename_i rows e1
        obtain ⟨h1, h2, h3, h⟩ := h
        subst h
        rw [eq_of e1] at hr
        have ho : RepD w I (.l rows) (Act.eval ⟨ts, ds⟩ x) := hr
        obtain ⟨a, cap, hv⟩ : ∃ a c, Act.eval ⟨ts, ds⟩ x = .slice a rows.length c := by
          generalize Act.eval ⟨ts, ds⟩ x = u at ho
          cases ho
          exact ⟨_, _, rfl⟩
        rw [hv] at ho
        have hlt : n.toNat < rows.length := by omega
        have hrow : rows[n.toNat]? = some (rows.getD n.toNat (zrow P e)) := by simp [List.getD_eq_getElem?_getD, List.getElem?_eq_getElem hlt]
        obtain ⟨b, o, vs, rfl, g4, g5, g6⟩ := ro_cells ho hrow h3
        exact ⟨_, execOp_v _ rfl (by rw [hv, hiv, key b o rows.length cap h1 h2]), ⟨b, _, vs, rfl, fun _ => g4, g5, g6⟩, fun _ => rfl, fun _ e => by cases e⟩
    · rename_i m e hu
      obtain ⟨h0, h1, h2, h⟩ := h
      obtain ⟨inf, hinf⟩ := Option.isSome_iff_exists.1 h0
      have key : ∀ b o, (Instr.indexAt t (.pointer (some ⟨b, o, none⟩)) (.int k n)).run P w = .ok (.pointer (some ⟨b, o + n.toNat * P.cellsOf e, none⟩)) w := by
        intro b o
        simp only [Instr.indexAt, asIntOf, Sem.run_bind, Sem.run_pure, Result.andThen_ok, run_underlying hu, run_sureAddr]
        rw [if_pos ⟨h1, h2⟩]
        simp only [Sem.run_bind, run_sizeOf' hinf, Result.andThen_ok, Sem.run_pure, addr_add]
      split at h
      · rename_i y off e1
        subst h
        rw [eq_of e1] at hr ht
        obtain ⟨b, f1, f2⟩ := hr
        exact ⟨_, execOp_v _ rfl (by rw [f2, hiv, key]), ⟨b, f1, rfl⟩, fun _ => rfl, ht⟩
      · rename_i cells e1
        subst h
        rw [eq_of e1] at hr
        obtain ⟨b, o, vs, f1, f2, f3, f4⟩ := hr
        refine ⟨_, execOp_v _ rfl (by rw [f1, hiv, key]), ⟨b, _, vs.drop (n.toNat * P.cellsOf e), rfl, fun hn => f2 (fun e => hn (by rw [e]; simp)), f3.drop _, fun j v e => ?_⟩, fun _ => rfl, fun _ e => by cases e⟩
        rw [List.getElem?_drop] at e
        rw [← f4 _ _ e]
        congr 2
        omega
      · exact h.elim
  case index t x i =>
    split at h <;> try exact h.elim
    · rename_i k n m e es ei hu e1
      obtain ⟨h0, h1, h2, h⟩ := h
      obtain ⟨inf, hinf⟩ := Option.isSome_iff_exists.1 h0
      obtain ⟨cs, g1, g2⟩ := ev_agg (ds := ds) inv e1
      obtain ⟨v, k1, k2⟩ := partD_sound (P := P) (s := s) (ts := ts) h g2
      refine ⟨v, execOp_v _ rfl ?_, k2⟩
      rw [g1, ev_v (ds := ds) inv ei]
      simp only [Instr.index, asIntOf, Sem.run_bind, Sem.run_pure, run_underlying hu, Result.andThen_ok]
      rw [if_pos ⟨h1, h2⟩]
      simp only [Sem.run_bind, run_sizeOf' hinf, Result.andThen_ok, k1]
    · rename_i k n str ei hu e1
      obtain ⟨h0, b, h1, rfl⟩ := h
      refine ⟨.int .u8 b.toNat, execOp_v _ rfl ?_, Told.v rfl⟩
      rw [ev_v (ds := ds) inv e1, ev_v (ds := ds) inv ei]
      simp only [Instr.index, asIntOf, Sem.run_bind, Sem.run_pure, run_underlying hu, Result.andThen_ok]
      rw [if_pos h0, h1]
      rfl
  case extract x j =>
    have hr := opd_sound (ds := ds) inv x
    split at h <;> try exact h.elim
    rename_i cs e1
    rw [eq_of e1] at hr
    obtain ⟨vs, g1, g2, g3⟩ := hr
    have key : ∀ c, cs[j]? = some c → ∃ v, vs[j]? = some v ∧ RepC w I v c := by
      intro c hc
      have hlt : j < vs.size := by rw [g2]; exact (List.getElem?_eq_some_iff.1 hc).1
      refine ⟨vs[j], Array.getElem?_eq_getElem hlt, ?_⟩
      have := g3 j c hc
      simpa [Array.getD_eq_getD_getElem?, Array.getElem?_eq_getElem hlt] using this
    split at h
    · rename_i d hd
      subst h
      obtain ⟨v, k1, k2⟩ := key _ hd
      exact ⟨v, execOp_v _ rfl (by rw [g1]; simp [Instr.extract, k1]), Told.one k2⟩
    · rename_i es hd
      subst h
      obtain ⟨v, k1, cs', rfl, k3⟩ := key _ hd
      exact ⟨_, execOp_v _ rfl (by rw [g1]; simp [Instr.extract, k1]), Told.agg k3⟩
    · exact h.elim
  case slice t x lo hi mx =>
    split at h <;> try exact h.elim
    rename_i e rows hu e1
    obtain ⟨h0, h1, l, hh, m, a1, a2, a3, a4, a5, rfl⟩ := h
    have hr := opd_sound (ds := ds) inv x
    rw [eq_of e1] at hr
    have ho : RepD w I (.l rows) (Act.eval ⟨ts, ds⟩ x) := hr
    obtain ⟨a, cap, hv⟩ : ∃ a c, Act.eval ⟨ts, ds⟩ x = .slice a rows.length c := by
      generalize Act.eval ⟨ts, ds⟩ x = u at ho
      cases ho
      exact ⟨_, _, rfl⟩
    rw [hv] at ho
    have hcap : rows.length ≤ cap := by cases ho; assumption
    have b1 : ((lo.map (Act.eval ⟨ts, ds⟩)) = none ∧ l = 0) ∨ ∃ k, (lo.map (Act.eval ⟨ts, ds⟩)) = some (.int k l) := by
      cases lo with
      | none => exact .inl ⟨rfl, a1⟩
      | some y => obtain ⟨k, e⟩ := a1; exact .inr ⟨k, by rw [Option.map_some, ev_v (ds := ds) inv e]⟩
    cases mx with
    | none =>
      simp only at a3
      have b2 : ((hi.map (Act.eval ⟨ts, ds⟩)) = none ∧ hh = rows.length ∧ (none : Option Value) = none) ∨ ∃ k, (hi.map (Act.eval ⟨ts, ds⟩)) = some (.int k hh) := by
        cases hi with
        | none => exact .inl ⟨rfl, a2, rfl⟩
        | some y => obtain ⟨k, e⟩ := a2; exact .inr ⟨k, by rw [Option.map_some, ev_v (ds := ds) inv e]⟩
      have hrun := run_slice_of (P := P) (w := w) hu h0 (a := a) (n := rows.length) (c := cap) (m := cap) (mx := none) b1 b2 (.inl ⟨rfl, rfl⟩) a4 (by omega) (Nat.le_refl _)
      exact ⟨_, execOp_v _ rfl (by rw [hv]; exact hrun), Told.one (ro_cut ho h1 a4 (by omega) (Nat.le_refl _) (by omega))⟩
    | some y =>
      obtain ⟨a6, ⟨k, e⟩, a7⟩ := a3
      have b2 : ((hi.map (Act.eval ⟨ts, ds⟩)) = none ∧ hh = rows.length ∧ ((some y).map (Act.eval ⟨ts, ds⟩)) = none) ∨ ∃ k, (hi.map (Act.eval ⟨ts, ds⟩)) = some (.int k hh) := by
        cases hi with
        | none => cases a6
        | some y => obtain ⟨k, e⟩ := a2; exact .inr ⟨k, by rw [Option.map_some, ev_v (ds := ds) inv e]⟩
      have hrun := run_slice_of (P := P) (w := w) hu h0 (a := a) (n := rows.length) (c := cap) (m := m) b1 b2 (.inr ⟨k, by rw [Option.map_some, ev_v (ds := ds) inv e]⟩) a4 a5 (by omega)
      exact ⟨_, execOp_v _ rfl (by rw [hv]; exact hrun), Told.one (ro_cut ho h1 a4 a5 (by omega) (by omega))⟩
  case call c =>
    obtain ⟨callee, args, argTypes⟩ := c
    simp only at h
    split at h <;> try exact h.elim
    · split at h <;> try exact h.elim
      rename_i x t hx ht
      obtain ⟨xs⟩ := args
      obtain ⟨tys⟩ := argTypes
      simp only at hx ht
      subst hx ht
      split at h <;> try exact h.elim
      · rename_i e hu
        split at h <;> try exact h.elim
        rename_i rows hl
        subst h
        obtain ⟨a, cap, e1, _⟩ := lst_sound (ds := ds) inv hl
        refine ⟨.int .i64 rows.length, ?_, Told.v rfl⟩
        simp [execOp, resolve, invoke, Go.builtin, Builtin.len_, run_underlying hu, e1, goInt]
      · rename_i n e hu
        subst h
        refine ⟨.int .i64 n, ?_, Told.v rfl⟩
        simp [execOp, resolve, invoke, Go.builtin, Builtin.len_, run_underlying hu, goInt]
    · split at h <;> try exact h.elim
      rename_i k n hf
      subst h
      obtain ⟨v0, rest, f1, f2⟩ := foldMM_run (P := P) (w := w) (I := I) (vs := args.toList.map (Act.eval ⟨ts, ds⟩)) hf (fun j o v e1 e2 d e3 => by
        rw [List.getElem?_map] at e1 e2
        cases hx : args.toList[j]? with
        | none => rw [hx] at e1; cases e1
        | some x =>
          rw [hx] at e1 e2
          simp only [Option.map_some, Option.some.injEq] at e1 e2
          subst e2
          rw [e3] at e1
          split at e1
          · rename_i d' ed
            cases e1
            exact ev_one (ds := ds) inv ed
          · cases e1) (by simp)
      refine ⟨.int k n, ?_, Told.v rfl⟩
      simp only [if_true] at f2
      have f3 : (args.map (Act.eval ⟨ts, ds⟩)).toList = v0 :: rest := by rw [Array.toList_map]; exact f1
      simp only [execOp, resolve, invoke, Go.builtin, Builtin.max_, Sem.run_bind, Sem.run_pure, Result.andThen_ok, f3, f2]
    · split at h <;> try exact h.elim
      rename_i k n hf
      subst h
      obtain ⟨v0, rest, f1, f2⟩ := foldMM_run (P := P) (w := w) (I := I) (vs := args.toList.map (Act.eval ⟨ts, ds⟩)) hf (fun j o v e1 e2 d e3 => by
        rw [List.getElem?_map] at e1 e2
        cases hx : args.toList[j]? with
        | none => rw [hx] at e1; cases e1
        | some x =>
          rw [hx] at e1 e2
          simp only [Option.map_some, Option.some.injEq] at e1 e2
          subst e2
          rw [e3] at e1
          split at e1
          · rename_i d' ed
            cases e1
            exact ev_one (ds := ds) inv ed
          · cases e1) (by simp)
      refine ⟨.int k n, ?_, Told.v rfl⟩
      simp only [Bool.false_eq_true, if_false] at f2
      have f3 : (args.map (Act.eval ⟨ts, ds⟩)).toList = v0 :: rest := by rw [Array.toList_map]; exact f1
      simp only [execOp, resolve, invoke, Go.builtin, Builtin.min_, Sem.run_bind, Sem.run_pure, Result.andThen_ok, f3, f2]
    · cases hc

end

end Go.Ax
