/- What a reading tells of an argument: its data. -/
import Derived.Test.YtmpbhgofllbejaaLibC
import Derived.SizedLaws
import Derived.ChangeArms
import Derived.Carry
import Derived.ProofKit
set_option linter.unusedVariables false
set_option linter.unusedSimpArgs false
set_option linter.unusedVariables false
set_option linter.unusedSimpArgs false
namespace Go.Ax
open Go

/-- Data, one after another. -/
def IsFs (F : TypeId → List D → Prop) : List TypeId → List D → Prop
  | [], ds => ds = []
  | t :: ts, ds => ∃ d r, ds = d ++ r ∧ F t d ∧ IsFs F ts r
/-- The data of a type. -/
def IsT (P : Program) : Nat → TypeId → List D → Prop
  | 0, _, _ => False
  | n + 1, t, ds => match P.underlying t with
    | some .bool => ∃ b, ds = [.v (.bool b)]
    | some (.int k) => ∃ x, ds = [.v (.int k x)] ∧ (Lit.int k x).wf = true
    | some .string => ∃ s : ByteArray, ds = [.v (.string s)] ∧ s.size ≤ reachBytes
    | some (.slice e) => ∃ rows, ds = [.l rows] ∧ rows.length * P.bytesOf e ≤ reachBytes ∧ ∀ r ∈ rows, IsT P n e r
    | some (.struct fs) => IsFs (IsT P n) (fs.toList.map (·.type)) ds
    | _ => False
def okFs (P : Program) : List Field → Nat → Nat → Bool
  | [], k, tot => k == tot
  | f :: r, k, tot => f.offset == k && okFs P r (k + P.cellsOf f.type) tot
def okT (P : Program) : Nat → TypeId → Bool
  | 0, _ => false
  | n + 1, t => match P.underlying t with
    | some .bool | some (.int _) | some .string => true
    | some (.slice e) => okT P n e && decide (0 < P.cellsOf e)
    | some (.struct fs) => okFs P fs.toList 0 (P.cellsOf t) && fs.toList.all fun f => okT P n f.type
    | _ => false

section
variable {H : Type} {enc : TypeId × Value → H} {P : Program} {w : World} {spare : Nat → Bool} {I : Nat → Prop}

theorem cells_get {base : Nat} {a : Addr} {n : Nat} {cs : List Value} (h : w.cells? base a n = some cs) : cs.length = n ∧ ∀ j, j < n → w.cell? (a.add j) = cs[j]? := by
  unfold World.cells? at h
  split at h <;> try cases h
  have key : ∀ (l : List Nat) (cs : List Value), l.mapM (fun i => w.cell? (a.add i)) = some cs → cs.length = l.length ∧ ∀ j i : Nat, l[j]? = some i → w.cell? (a.add i) = cs[j]? := by
    intro l
    induction l with
    | nil => intro cs h; simp at h; subst h; exact ⟨rfl, fun j i h => by cases h⟩
    | cons i l ih =>
      intro cs h
      simp only [List.mapM_cons, Option.bind_eq_bind, Option.pure_def, Option.bind_eq_some_iff, Option.some.injEq] at h
      obtain ⟨c, hc, cs', hcs, rfl⟩ := h
      obtain ⟨k1, k2⟩ := ih cs' hcs
      refine ⟨by simp [k1], fun j i' hj => ?_⟩
      cases j with
      | zero => simp only [List.getElem?_cons_zero, Option.some.injEq] at hj; subst hj; exact hc
      | succ j => simpa using k2 j i' (by simpa using hj)
  obtain ⟨k1, k2⟩ := key _ _ h
  refine ⟨by simpa using k1, fun j hj => k2 j j (by simp [hj])⟩

theorem fs_IsT {n fuel : Nat} (ih : ∀ t cs x, okT P n t = true → DataW.trod enc P w 0 spare true fuel t cs = some x → (∀ m ∈ x.1.weights P t, m ≤ reachBytes) → ∃ ds, IsT P n t ds ∧ RepL w I ds cs) :
    ∀ (fs : List Field) (k : Nat) (cs : List Value) (xs : List (DataW H × List MemPlace)), okFs P fs k cs.length = true → fs.all (fun f => okT P n f.type) = true → k ≤ cs.length →
      fs.mapM (fun f => DataW.trod enc P w 0 spare true fuel f.type ((cs.drop f.offset).take (P.cellsOf f.type))) = some xs →
      (∀ m ∈ DataW.weightsEach P (fs.map (·.type)) (xs.map (·.1)), m ≤ reachBytes) → ∃ ds, IsFs (IsT P n) (fs.map (·.type)) ds ∧ RepL w I ds (cs.drop k) := by
  intro fs
  induction fs with
  | nil =>
    intro k cs xs h1 _ _ _ _
    simp only [okFs, beq_iff_eq] at h1
    refine ⟨[], rfl, ?_⟩
    rw [h1, List.drop_length]
    exact ⟨rfl, fun j d v h => by cases h⟩
  | cons f fs ihf =>
    intro k cs xs h1 h2 hk h3 h4
    simp only [okFs, Bool.and_eq_true, beq_iff_eq] at h1
    obtain ⟨ho, h1⟩ := h1
    simp only [List.all_cons, Bool.and_eq_true] at h2
    simp only [List.mapM_cons, Option.bind_eq_bind, Option.pure_def, Option.bind_eq_some_iff, Option.some.injEq] at h3
    obtain ⟨x, hx, xs', hxs, rfl⟩ := h3
    simp only [List.map_cons, DataW.weightsEach, List.mem_append] at h4
    rw [ho] at hx
    obtain ⟨d, hd, rd⟩ := ih f.type _ x h2.1 hx (fun m hm => h4 m (.inl hm))
    have hlen : ∀ (fs : List Field) (k t : Nat), okFs P fs k t = true → k ≤ t := by
      intro fs
      induction fs with
      | nil => intro k t h; simp only [okFs, beq_iff_eq] at h; omega
      | cons g gs ihg => intro k t h; simp only [okFs, Bool.and_eq_true] at h; have := ihg _ _ h.2; omega
    have hk' := hlen _ _ _ h1
    obtain ⟨r, hr, rr⟩ := ihf (k + P.cellsOf f.type) cs xs' h1 h2.2 hk' hxs (fun m hm => h4 m (.inr hm))
    refine ⟨d ++ r, ⟨d, r, rfl, hd, hr⟩, ?_⟩
    have e : cs.drop k = (cs.drop k).take (P.cellsOf f.type) ++ cs.drop (k + P.cellsOf f.type) := by
      rw [← List.drop_drop, List.take_append_drop]
    rw [e]
    refine ⟨by simp only [List.length_append]; rw [rd.1, rr.1], fun j dd v hj hv => ?_⟩
    by_cases hj' : j < d.length
    · rw [List.getElem?_append_left hj'] at hj
      rw [List.getElem?_append_left (by rw [← rd.1]; exact hj')] at hv
      exact rd.2 j dd v hj hv
    · rw [List.getElem?_append_right (by omega)] at hj
      rw [List.getElem?_append_right (by rw [← rd.1]; omega), ← rd.1] at hv
      exact rr.2 _ dd v hj hv

theorem mem_weightsAll {e : TypeId} {l : List (DataW H)} {d : DataW H} (h : d ∈ l) {m : Nat} (hm : m ∈ d.weights P e) : m ∈ DataW.weightsAll P e l := by
  induction l with
  | nil => cases h
  | cons a l ih =>
    simp only [DataW.weightsAll, List.mem_append]
    rcases List.mem_cons.1 h with rfl | h
    · exact .inl hm
    · exact .inr (ih h)

/-- WHAT IS READ IS DATA OF ITS TYPE. -/
theorem trod_IsT (hI : ∀ b, b < w.heap.size → I b) : ∀ (n : Nat) (fuel : Nat) (t : TypeId) (cs : List Value) (x : DataW H × List MemPlace), okT P n t = true → DataW.trod enc P w 0 spare true fuel t cs = some x → (∀ m ∈ x.1.weights P t, m ≤ reachBytes) →
    ∃ ds, IsT P n t ds ∧ RepL w I ds cs := by
  intro n
  induction n with
  | zero => intro fuel t cs x h; simp [okT] at h
  | succ n ih =>
    intro fuel t cs x hk h hw
    have one : ∀ {v : Value} {d : D}, RepD w I d v → RepL w I [d] [v] := fun {v d} h => RepL.cons h ⟨rfl, fun j d v h => by cases h⟩
    unfold okT at hk
    unfold IsT
    split at hk <;> try cases hk
    · rename_i hu
      cases fuel with
      | zero => simp [DataW.trod] at h
      | succ fuel =>
        obtain ⟨b, rfl⟩ : ∃ b, cs = [.bool b] := by
          unfold DataW.trod at h
          rw [hu] at h
          match cs, h with
          | [], h => simp at h
          | v :: w :: r, h => simp at h
          | [v], h => cases v <;> simp at h ⊢
        exact ⟨_, ⟨b, rfl⟩, one (.v _ rfl)⟩
    · rename_i k hu
      cases fuel with
      | zero => simp [DataW.trod] at h
      | succ fuel =>
        obtain ⟨m, rfl, _, h5⟩ := DataW.trod_int hu h
        exact ⟨_, ⟨m, rfl, h5⟩, one (.v _ rfl)⟩
    · rename_i hu
      cases fuel with
      | zero => simp [DataW.trod] at h
      | succ fuel =>
        obtain ⟨s, rfl, hx⟩ : ∃ s, cs = [.string s] ∧ x = (.lit (.string s.data.toList), []) := by
          unfold DataW.trod at h
          rw [hu] at h
          match cs, h with
          | [], h => simp at h
          | v :: w :: r, h => simp at h
          | [v], h => cases v <;> simp at h ⊢; exact h.2.symm
        subst hx
        simp only [DataW.weights, List.mem_singleton, forall_eq] at hw
        exact ⟨[.v (.string s)], ⟨s, rfl, by simpa using hw⟩, one (.v _ rfl)⟩
    · rename_i e hu
      simp only [Bool.and_eq_true, decide_eq_true_eq] at hk
      obtain ⟨hke, hpos⟩ := hk
      rcases DataW.trod_slice hu h with ⟨rfl, rfl⟩ | ⟨a, len, cap, elems, rest, fuel', rfl, rfl, rfl, hb, hlc, hm, hlen, hel, hsp, hns⟩
      · exact ⟨[.l []], ⟨[], rfl, by simp, by simp⟩, one (RepD.l_nil w I none 0 (by simp))⟩
      · simp only [DataW.weights, hu, List.mem_cons, List.mem_append, forall_eq_or_imp] at hw
        obtain ⟨hw1, hw2⟩ := hw
        have each : ∀ i, i < len → ∃ ds cs, IsT P n e ds ∧ RepL w I ds cs ∧ cs.length = P.cellsOf e ∧ ∀ j, j < P.cellsOf e → w.cell? ((a.add (i * P.cellsOf e)).add j) = cs[j]? := by
          intro i hi
          have hq := hel i hi
          rw [List.getElem?_eq_getElem (by omega), Option.bind_eq_some_iff] at hq
          obtain ⟨cs, hcs, hy⟩ := hq
          obtain ⟨k1, k2⟩ := cells_get hcs
          obtain ⟨ds, g1, g2⟩ := ih fuel' e cs _ hke hy (fun m hm => hw2 m (.inl (mem_weightsAll (List.mem_map.2 ⟨_, List.getElem_mem _, rfl⟩) hm)))
          exact ⟨ds, cs, g1, g2, k1, k2⟩
        have each' : ∀ i, ∃ ds cs, i < len → IsT P n e ds ∧ RepL w I ds cs ∧ cs.length = P.cellsOf e ∧ ∀ j, j < P.cellsOf e → w.cell? ((a.add (i * P.cellsOf e)).add j) = cs[j]? := fun i => by
          by_cases hi : i < len
          · obtain ⟨ds, cs, h⟩ := each i hi; exact ⟨ds, cs, fun _ => h⟩
          · exact ⟨[], [], fun h => absurd h hi⟩
        clear each
        obtain ⟨dsf, each⟩ := Classical.axiomOfChoice each'
        obtain ⟨csf, each⟩ := Classical.axiomOfChoice each
        have hbytes : len * P.bytesOf e ≤ reachBytes := by
          refine Nat.le_trans (Nat.mul_le_mul_right _ ?_) hw1
          simp only [List.length_map]
          omega
        refine ⟨[.l ((List.range len).map dsf)], ⟨_, rfl, by simpa using hbytes, ?_⟩, one ?_⟩
        · intro r hr
          simp only [List.mem_map, List.mem_range] at hr
          obtain ⟨i, hi, rfl⟩ := hr
          exact (each i hi).1
        · have hx : RepD w I (.l ((List.range len).map dsf)) (.slice (some a) ((List.range len).map dsf).length cap) := by
            refine RepD.l _ (P.cellsOf e) (some a) cap (fun i j => (csf i).getD j undef) ?_ (by simpa using hlc) hm ?_ ?_
            · intro r hr
              simp only [List.mem_map, List.mem_range] at hr
              obtain ⟨i, hi, rfl⟩ := hr
              rw [(each i hi).2.1.1, (each i hi).2.2.1]
            · intro hne
              have h0 : 0 < len := by
                rcases Nat.eq_zero_or_pos len with h0 | h0
                · subst h0; simp at hne
                · exact h0
              have c0 := (each 0 h0).2.2.2 0 hpos
              rw [List.getElem?_eq_getElem (by rw [(each 0 h0).2.2.1]; exact hpos)] at c0
              simp only [Nat.zero_mul, Addr.add, if_true] at c0
              obtain ⟨b, o, sp⟩ := a
              have hsp0 : sp = none := by
                unfold World.cell? at c0
                split at c0 <;> try cases c0
                split at c0
                · cases c0
                · rename_i h; cases sp <;> simp_all
              subst hsp0
              have hlt : b < w.heap.size := by
                unfold World.cell? at c0
                split at c0 <;> try cases c0
                rename_i h
                exact (Array.getElem?_eq_some_iff.1 h).1
              refine ⟨b, o, rfl, hI b hlt, fun i j hi hj => ?_⟩
              simp only [List.length_map, List.length_range] at hi
              have c := (each i hi).2.2.2 j hj
              have ea : ((⟨b, o, none⟩ : Addr).add (i * P.cellsOf e)).add j = ⟨b, o + i * P.cellsOf e + j, none⟩ := by
                unfold Addr.add
                split <;> split <;> simp_all
              rw [ea] at c
              rw [c, List.getD_eq_getElem?_getD, List.getElem?_eq_getElem (by rw [(each i hi).2.2.1]; exact hj)]
              rfl
            · intro i r hi j d hd
              simp only [List.getElem?_map, Option.map_eq_some_iff] at hi
              obtain ⟨i', hi', rfl⟩ := hi
              have hil : i < len := by
                have := (List.getElem?_eq_some_iff.1 hi').1
                simpa using this
              rw [List.getElem?_range hil] at hi'
              cases hi'
              have hr := (each i hil).2.1
              have hj : j < (dsf i).length := (List.getElem?_eq_some_iff.1 hd).1
              refine hr.2 j d _ hd ?_
              rw [List.getD_eq_getElem?_getD, List.getElem?_eq_getElem (by rw [← hr.1]; exact hj)]
              rfl
          rw [show ((List.range len).map dsf).length = len by simp] at hx
          exact hx
    · rename_i fs hu
      simp only [Bool.and_eq_true] at hk
      cases fuel with
      | zero => simp [DataW.trod] at h
      | succ fuel =>
        unfold DataW.trod at h
        rw [hu] at h
        simp only at h
        split at h <;> try cases h
        rename_i hl
        simp only [Option.map_eq_some_iff] at h
        obtain ⟨xs, hxs, rfl⟩ := h
        simp only [DataW.weights, hu] at hw
        rw [← hl] at hk
        obtain ⟨ds, g1, g2⟩ := fs_IsT (fun t cs x => ih fuel t cs x) fs.toList 0 cs xs hk.1 hk.2 (Nat.zero_le _) hxs hw
        exact ⟨ds, g1, by simpa using g2⟩
end
end Go.Ax

/- A law's row, from its contract. -/
set_option linter.unusedVariables false
set_option linter.unusedSimpArgs false
namespace Go.Ax
open Go Go.ChangeShapes Go.WideShapes Go.ChangeAt Go.RowKit

/-- What a law tells. -/
def yes : List Comp := [.one (.d (.v (.bool true)))]
/-- Arguments that are data of their types. -/
def LawArgs (P : Program) (n : Nat) : List TypeId → List Arg → Prop
  | [], as => as = []
  | t :: ts, as => ∃ a r, as = a :: r ∧ a.1 = isAggT P t ∧ IsT P n t a.2 ∧ LawArgs P n ts r
def okLaw (P : Program) (n : Nat) (t : TypeId) : Bool := okT P n t && P.readableRec t && decide (t < P.types.size)

section
variable {H : Type} {enc : TypeId × Value → H} {P : Program} {W : World}

theorem open_args {n base : Nat} : ∀ (ts : List TypeId) (vs : List Value) (ds : List (DataW H)) (p : List MemPlace), ts.all (okT P n) = true → DataW.TrodAll enc P W 0 (fun _ => true) true ts vs ds p →
    (∀ (j : Nat) t v, ts[j]? = some t → vs[j]? = some v → Value.okWide P W .any base t v) → (∀ m ∈ DataW.weightsEach P ts ds, m ≤ reachBytes) → ∃ as, LawArgs P n ts as ∧ ArgsRep W (fun b => b < W.heap.size) as vs
  | [], [], [], p, _, h, _, _ => ⟨[], rfl, trivial⟩
  | t :: ts, v :: vs, d :: ds, p, hk, h, hv, hw => by
    obtain ⟨p, q, ht, hr, _⟩ := h
    simp only [List.all_cons, Bool.and_eq_true] at hk
    simp only [DataW.weightsEach, List.mem_append] at hw
    obtain ⟨as, k1, k2⟩ := open_args ts vs ds q hk.2 hr (fun j t v h1 h2 => hv (j + 1) t v (by simpa using h1) (by simpa using h2)) (fun m hm => hw m (.inr hm))
    obtain ⟨fuel, ht⟩ := ht
    obtain ⟨dd, g1, g2⟩ := trod_IsT (I := fun b => b < W.heap.size) (fun _ h => h) n fuel t _ _ hk.1 ht (fun m hm => hw m (.inl hm))
    have hv0 := hv 0 t v rfl rfl
    refine ⟨(isAggT P t, dd) :: as, ⟨_, _, rfl, rfl, g1, k1⟩, ?_, k2⟩
    have hk1 := hk.1
    cases n with
    | zero => simp [okT] at hk1
    | succ n =>
      unfold okT at hk1
      unfold Value.okWide at hv0
      have two : ∀ {v : Value}, v.cells = #[v] → RepL W (fun b => b < W.heap.size) dd v.cells.toList → ArgRep W (fun b => b < W.heap.size) v (false, dd) := fun {v} e h => by
        rw [e] at h
        have hl := h.1
        match dd, hl, h with
        | [d], _, h => exact ⟨d, rfl, h.2 0 d v rfl rfl⟩
      split at hk1 <;> try cases hk1
      · rename_i hu
        simp only [isAggT, hu, Cell.okWide] at hv0 ⊢
        exact two (by cases v <;> simp_all [Cell.ok, Value.cells]) g2
      · rename_i k hu
        simp only [isAggT, hu, Cell.okWide] at hv0 ⊢
        exact two (by cases v <;> simp_all [Cell.ok, Value.cells]) g2
      · rename_i hu
        simp only [isAggT, hu, Cell.okWide] at hv0 ⊢
        exact two (by cases v <;> simp_all [Cell.ok, Value.cells]) g2
      · rename_i e hu
        simp only [isAggT, hu, Cell.okWide] at hv0 ⊢
        exact two (by cases v <;> simp_all [Cell.ok, Value.cells]) g2
      · rename_i fs hu
        simp only [isAggT, hu] at hv0 ⊢
        obtain ⟨cs, rfl, _⟩ := hv0
        exact ⟨cs, rfl, g2⟩
  | [], _ :: _, _, _, _, h, _, _ => h.elim
  | [], [], _ :: _, _, _, h, _, _ => h.elim
  | _ :: _, [], _, _, _, h, _, _ => h.elim
  | _ :: _, _ :: _, [], _, _, h, _, _ => h.elim

theorem trodAll_len : ∀ (ts : List TypeId) (vs : List Value) (ds : List (DataW H)) (p : List MemPlace), DataW.TrodAll enc P W 0 (fun _ => true) true ts vs ds p → ds.length = ts.length
  | [], [], [], p, h => rfl
  | t :: ts, v :: vs, d :: ds, p, h => by
    obtain ⟨p, q, _, hr, _⟩ := h
    simp [trodAll_len ts vs ds q hr]
  | [], _ :: _, _, _, h => h.elim
  | [], [], _ :: _, _, h => h.elim
  | _ :: _, [], _, _, h => h.elim
  | _ :: _, _ :: _, [], _, h => h.elim

theorem trodAll_back (hl : laidOutB P = true) {W' : World} (hb : Below W.heap.size W W') : ∀ (ts : List TypeId) (vs : List Value) (ds : List (DataW H)) (p : List MemPlace), ts.all (fun t => P.readableRec t && decide (t < P.types.size)) = true → DataW.TrodAll enc P W 0 (fun _ => true) true ts vs ds p →
    DataW.TrodAll enc P W' 0 (fun b => decide (b < W.heap.size)) true ts vs ds p
  | [], [], [], p, _, h => h
  | t :: ts, v :: vs, d :: ds, p, hk, h => by
    obtain ⟨p, q, ht, hr, e⟩ := h
    simp only [List.all_cons, Bool.and_eq_true, decide_eq_true_eq] at hk
    refine ⟨p, q, Below.trod hl hk.1.1 hk.1.2 ht hb (fun x hx => ?_), trodAll_back hl hb ts vs ds q hk.2 hr, e⟩
    obtain ⟨m, hm⟩ := ht
    exact DataW.trod_lt m _ _ _ hm x hx
  | [], _ :: _, _, _, _, h => h.elim
  | [], [], _ :: _, _, _, h => h.elim
  | _ :: _, [], _, _, _, h => h.elim
  | _ :: _, _ :: _, [], _, _, h => h.elim

theorem law_contract (hl : laidOutB P = true) {f : FuncId} {fn : Func} (hf : P.funcs[f]? = some fn) (hb : fn.body.isSome = true) (hname : (fn.name == "runtime.NumGoroutine") = false) {s : ChangeSpec} (hvars : s.vars = []) {tb : TypeId}
    (hres : fn.resultTypes = #[tb]) (htb : P.underlying tb = some .bool) (n : Nat) (hok : fn.params.toList.all (okLaw P n) = true)
    (hfn : ∀ (H : Type) (ds : List (DataW H)), ds.length = fn.params.size → s.fn H ds = { results := [.lit (.bool true)], args := ds })
    (spec : ∀ as, LawArgs P n fn.params.toList as → FSpec P f as yes) {base : Nat} {args : Array Value} {ds gs : List (DataW H)} {before : List MemPlace}
    (hval : ∀ (j : Nat) t v, fn.params[j]? = some t → args[j]? = some v → Value.okWide P W .any base t v)
    (hW : DataW.Whole enc P fn.params.toList s.vars false W args.toList ds gs before)
    (hsz : (DataW.weightsEach P (fn.params.toList ++ s.plain.varTypes P) (ds ++ gs)).all (· ≤ reachBytes) = true) :
    Calls P f args W fun e W' => ∃ v, e = .returned v ∧ s.post enc P fn false true false false W args v W' := by
  have hW' := hW
  obtain ⟨p, q, hA, hV, rfl, hfz, hnd⟩ := hW
  rw [hvars] at hV
  obtain ⟨rfl, rfl⟩ := trodVars_none hV
  have hlen := trodAll_len _ _ _ _ hA
  have hvt : s.plain.varTypes P = [] := by
    simp [ChangeSpec.plain, DataSpec.varTypes, hvars]
  rw [hvt, List.append_nil, List.append_nil] at hsz
  simp only [List.all_eq_true, decide_eq_true_eq] at hsz
  have hok1 : fn.params.toList.all (okT P n) = true := by
    rw [List.all_eq_true] at hok ⊢
    intro t ht
    have := hok t ht
    simp only [okLaw, Bool.and_eq_true] at this
    exact this.1.1
  have hok2 : fn.params.toList.all (fun t => P.readableRec t && decide (t < P.types.size)) = true := by
    rw [List.all_eq_true] at hok ⊢
    intro t ht
    have := hok t ht
    simp only [okLaw, Bool.and_eq_true] at this
    simp only [Bool.and_eq_true]
    exact ⟨this.1.2, this.2⟩
  obtain ⟨as, k1, k2⟩ := open_args (base := base) _ _ _ _ hok1 hA (fun j t v h1 h2 => hval j t v (by simpa using h1) (by simpa using h2)) hsz
  have hlen' : ds.length = fn.params.size := by simpa using hlen
  have hnm : fn.name ≠ "runtime.NumGoroutine" := by simpa using hname
  obtain ⟨body, hb⟩ := Option.isSome_iff_exists.1 hb
  have hcf : (callFunc f args).run P W = .ok (.enter f args) W := by simp [callFunc, hf, hnm, hb]
  rcases spec as k1 W _ args.toList (fun _ h => h) k2 with ⟨_, hc⟩ | ⟨v, w', hc, _⟩
  · simp only [Array.toArray_toList] at hc
    refine hc.mono fun e W' ⟨v, he, hcame⟩ => ?_
    subst he
    have hv : v = .bool true := by
      obtain ⟨I', _, _, hr, _⟩ := hcame.rep
      exact (RepD.v_inv hr).1
    subst hv
    have bel : Below W.heap.size W W' := ⟨hcame.fr.os, hcame.fr.tape, hcame.fr.output, hcame.fr.size, fun k hk => hcame.fr.block k hk (by simp [noExt])⟩
    refine ⟨_, rfl, ds, [], p ++ [], [], p, [], hW', ?_, ?_, ?_, bel.frame _, fun h => by cases h⟩
    · rw [List.append_nil, hfn H ds hlen', hres]
      exact trodAll_mk1 (shut_bool htb _)
    · rw [List.append_nil, hfn H ds hlen']
      exact trodAll_back hl bel _ _ _ _ hok2 hA
    · rw [List.append_nil, hfn H ds hlen', hvars]
      rfl
  · rw [Array.toArray_toList, hcf] at hc
    simp at hc
end
end Go.Ax
