/- A region that draws its order, walked in its written order. -/
import Derived.Test.YtmpbhgofllbejaaLibD
import Derived.Test.YtmpbhgofllbejaaLibC
set_option linter.unusedVariables false
set_option linter.unusedSimpArgs false
set_option linter.unusedVariables false
set_option linter.unusedSimpArgs false
namespace Go.Ax
open Go

section
variable {P : Program} {ops : Array Oper} {w0 w : World} {ext I0 : Nat → Prop} {s : S} {a : Act} {Q : Exit → Act → World → Prop}

theorem Ok.eqv {s2 : S} (h : Ok w0 ext I0 s a w) (he : Eqv s2 s) (wf : Wf s2) : Ok w0 ext I0 s2 a w := by
  obtain ⟨h0, I, h1, h2, inv⟩ := h
  exact ⟨h0, I, h1, h2, inv.weaken he.n.symm (fun x => .inl (he.get x).symm) (fun x => (he.var x).symm) (fun x hx => (wf x (by rw [← he.var]; exact hx)).1)⟩
theorem Ok.wf (h : Ok w0 ext I0 s a w) : Wf s ∧ Tg s := by
  obtain ⟨h0, I, h1, h2, inv⟩ := h
  exact ⟨inv.vtgt, inv.tgt⟩
theorem Ok.drew (h : Ok w0 ext I0 s a w) : Ok w0 ext I0 s a { w with drawn := w.drawn + 1 } := by
  obtain ⟨h0, I, h1, h2, inv⟩ := h
  exact ⟨h0, I, h1, h2, inv.grow ⟨rfl, rfl, rfl, Nat.le_refl _, fun _ _ _ => rfl⟩⟩

theorem aAny_wp {F : Nat → Option Value} (hF : ∀ o ∈ ops, clearO F o) {fp : Nat → Fp} {K : S → Prop} (kQ : ∀ s' a' w', K s' → OkF F w0 ext I0 s' a' w' → Q .normal a' w') : ∀ (m : Nat) (listed : Array Bool) (s : S) (a : Act) (w : World), OkF F w0 ext I0 s a w → aAny P ops fp K m listed s → wpAny P .any ops Q m listed a w := by
  have hk : ∀ {s a w}, OkF F w0 ext I0 s a w → kEqv K s → Q .normal a w := fun hok ⟨s2, h1, h2, h3⟩ => kQ s2 _ _ h3 (hok.map fun h => h.eqv h1 h2)
  intro m
  induction m with
  | zero => intro listed s a w hok h; exact ⟨h.1, hk hok h.2⟩
  | succ m ih =>
    intro listed s a w hok h
    refine ⟨fun hr => hk hok (h.1 hr), fun j hj => ?_⟩
    obtain ⟨_, o, ho, _⟩ := mem_ready.1 hj
    have h1 := h.2 j o hj ho
    have hFo : clearO F o := hF o (Array.mem_of_getElem? ho)
    have step : aOp P o s (aAny P ops fp K m (listed.setIfInBounds j true)) → o.wp P a w (wpAny P .any ops Q m (listed.setIfInBounds j true)) Q := fun h =>
      aOpF_wp hFo hok h (fun s' a' w' hK hok' => ih _ s' a' w' hok' hK)
    unfold wpOp
    simp only [ho]
    unfold aStep at h1
    split at h1
    · rename_i hg
      rw [if_pos (by simp [Region.wanted, hg])]
      exact .inl (step h1.2)
    · rename_i g b hg
      split at h1 <;> try exact h1.elim
      rename_i β hβ
      have hy := guard_yields hok.1 hβ
      by_cases hb : β = b
      · rw [if_pos (by simp only [Region.wanted, hg]; exact beq_iff_eq.2 (hy.2 hb))]
        exact .inl (step (h1.1 hb).2)
      · rw [if_neg (by simp only [Region.wanted, hg]; exact fun e => hb (hy.1 (beq_iff_eq.1 e)))]
        have hb' : β = !b := by cases β <;> cases b <;> simp_all
        obtain ⟨⟨_, h3⟩, h4⟩ := h1.2 hb'
        exact ih _ _ _ w (skipF_ok hFo hok h3) h4
end

/-! ### The check -/
def topoB : Nat → List Oper → Bool
  | _, [] => true
  | k, o :: r => (o.after.toList.all fun e => !Region.binds .any e || decide (e.on < k)) && topoB (k + 1) r
def depsM (acc : List Nat) (es : List Edge) : Nat := es.foldl (fun m e => if Region.binds .any e = true then m ||| (1 <<< e.on) ||| acc.getD e.on 0 else m) 0
def ancs : List Nat → List Oper → List Nat
  | acc, [] => acc
  | acc, o :: r => ancs (acc ++ [depsM acc o.after.toList]) r
def apartB (f g : Fp) : Bool := (f.2.all fun z => !g.1.contains z && !g.2.contains z) && g.2.all fun z => !f.1.contains z && !f.2.contains z
def chkJ (mask : Nat) (fj : Fp) : Nat → List Fp → Bool
  | _, [] => true
  | i, fi :: r => (mask.testBit i || apartB fi fj) && chkJ mask fj (i + 1) r
def chkAll : List Fp → List Fp → List Nat → Bool
  | _, [], _ => true
  | prev, f :: r, ms => match ms with
    | m :: ms => chkJ m f 0 prev && chkAll (prev ++ [f]) r ms
    | [] => false
def chk (ops : Array Oper) (n : Nat) (tr : List Fp) : Bool := topoB 0 ops.toList && chkAll [] tr (ancs [] ops.toList)

theorem topoB_spec : ∀ {l : List Oper} {k : Nat}, topoB k l = true → ∀ (j : Nat) (o : Oper), l[j]? = some o → ∀ e ∈ o.after, Region.binds .any e = true → e.on < k + j
  | [], k, h, j, o, hj => by simp at hj
  | o' :: r, k, h, j, o, hj => by
    simp only [topoB, Bool.and_eq_true, List.all_eq_true, Bool.or_eq_true, Bool.not_eq_true', decide_eq_true_eq] at h
    cases j with
    | zero =>
      simp only [List.getElem?_cons_zero, Option.some.injEq] at hj
      subst hj
      intro e he hb
      rcases h.1 e (by simpa using he) with h1 | h1
      · rw [hb] at h1; cases h1
      · exact h1
    | succ j =>
      intro e he hb
      have := topoB_spec h.2 j o (by simpa using hj) e he hb
      omega

def AccOk (ops : Array Oper) (acc : List Nat) : Prop := ∀ k i, (acc.getD k 0).testBit i = true → Anc ops i k
theorem depsM_spec {ops : Array Oper} {acc : List Nat} (hacc : AccOk ops acc) {k : Nat} {o : Oper} (ho : ops[k]? = some o) {i : Nat} (h : (depsM acc o.after.toList).testBit i = true) : Anc ops i k := by
  have : ∀ (es : List Edge) (m : Nat), (∀ e ∈ es, e ∈ o.after) → (m.testBit i = true → Anc ops i k) → (es.foldl (fun m e => if Region.binds .any e = true then m ||| (1 <<< e.on) ||| acc.getD e.on 0 else m) m).testBit i = true → Anc ops i k := by
    intro es
    induction es with
    | nil => intro m _ hm h; exact hm h
    | cons e r ih =>
      intro m hes hm h
      refine ih _ (fun e he => hes e (by simp [he])) (fun h1 => ?_) h
      simp only [] at h1
      split at h1
      · rename_i hb
        rw [Nat.testBit_or, Nat.testBit_or, Bool.or_eq_true, Bool.or_eq_true] at h1
        rcases h1 with (h1 | h1) | h1
        · exact hm h1
        · rw [Nat.one_shiftLeft, Nat.testBit_two_pow] at h1
          exact .dep ho (hes e (by simp)) hb (by simpa using h1)
        · exact .trans (hacc _ _ h1) (.dep ho (hes e (by simp)) hb rfl)
      · exact hm h1
  exact this o.after.toList 0 (fun e he => by simpa using he) (fun h => by simp at h) h
theorem ancs_spec {ops : Array Oper} : ∀ (l : List Oper) (acc : List Nat), (∀ j o, l[j]? = some o → ops[acc.length + j]? = some o) → AccOk ops acc → AccOk ops (ancs acc l) ∧ (ancs acc l).length = acc.length + l.length
  | [], acc, _, h => ⟨h, by simp [ancs]⟩
  | o :: r, acc, hl, h => by
    have ho : ops[acc.length]? = some o := by simpa using hl 0 o rfl
    have h' : AccOk ops (acc ++ [depsM acc o.after.toList]) := by
      intro k i hk
      rcases Nat.lt_trichotomy k acc.length with hlt | heq | hgt
      · rw [List.getD_eq_getElem?_getD, List.getElem?_append_left hlt, ← List.getD_eq_getElem?_getD] at hk
        exact h k i hk
      · subst heq
        rw [List.getD_eq_getElem?_getD] at hk
        simp only [List.getElem?_concat_length, Option.getD_some] at hk
        exact depsM_spec h ho hk
      · rw [List.getD_eq_getElem?_getD, List.getElem?_eq_none (by simp; omega)] at hk
        simp at hk
    have := ancs_spec r (acc ++ [depsM acc o.after.toList]) (fun j o' hj => by
      have := hl (j + 1) o' (by simpa using hj)
      rw [List.length_append, List.length_singleton]
      rwa [show acc.length + 1 + j = acc.length + (j + 1) by omega]) h'
    exact ⟨this.1, by rw [ancs, this.2]; simp; omega⟩

theorem apartB_spec {n : Nat} {f g : Fp} (h : apartB f g = true) : Apart n f.1 f.2 g.1 g.2 := by
  simp only [apartB, Bool.and_eq_true, List.all_eq_true, Bool.not_eq_true', List.contains_eq_mem, decide_eq_false_iff_not] at h
  exact h
theorem chkJ_spec {mask : Nat} {fj : Fp} : ∀ {l : List Fp} {i : Nat}, chkJ mask fj i l = true → ∀ k fi, l[k]? = some fi → mask.testBit (i + k) = true ∨ apartB fi fj = true
  | [], i, h, k, fi, hk => by simp at hk
  | f :: r, i, h, k, fi, hk => by
    simp only [chkJ, Bool.and_eq_true, Bool.or_eq_true] at h
    cases k with
    | zero => simp only [List.getElem?_cons_zero, Option.some.injEq] at hk; subst hk; exact h.1
    | succ k =>
      have := chkJ_spec h.2 k fi (by simpa using hk)
      rwa [show i + 1 + k = i + (k + 1) by omega] at this
theorem chkAll_spec : ∀ {l prev : List Fp} {ms : List Nat}, chkAll prev l ms = true → ∀ j fj, l[j]? = some fj → ∀ i fi, (prev ++ l)[i]? = some fi → i < prev.length + j → (ms.getD j 0).testBit i = true ∨ apartB fi fj = true
  | [], prev, ms, h, j, fj, hj => by simp at hj
  | f :: r, prev, ms, h, j, fj, hj => by
    cases ms with
    | nil => simp [chkAll] at h
    | cons m ms =>
      simp only [chkAll, Bool.and_eq_true] at h
      intro i fi hi hlt
      cases j with
      | zero =>
        simp only [List.getElem?_cons_zero, Option.some.injEq] at hj
        subst hj
        rw [List.getElem?_append_left (by omega)] at hi
        simpa using chkJ_spec h.1 i fi hi
      | succ j =>
        have := chkAll_spec h.2 j fj (by simpa using hj) i fi (by simpa using hi) (by simp; omega)
        simpa using this

/-! ### The written order -/
section
variable {P : Program} {ops : Array Oper}

def aRun (P : Program) (ops : Array Oper) (fp : Nat → Fp) (K : S → Prop) : Nat → List Oper → S → Prop
  | _, [], s => K s
  | k, o :: r, s => aStep P ops (fp k) o s (aRun P ops fp K (k + 1) r)

def lst (n k : Nat) : Array Bool := Array.ofFn (n := n) fun i => decide (i.val < k)
theorem lst_getD {n k i : Nat} (d : Bool) (h : i < n) : (lst n k).getD i d = decide (i < k) := by simp [lst, Array.getD, h]
theorem lst_out {n k i : Nat} (d : Bool) (h : n ≤ i) : (lst n k).getD i d = d := by
  have : ¬ i < n := by omega
  simp [lst, Array.getD, this]
theorem lst_set {n k : Nat} (h : k < n) : (lst n k).setIfInBounds k true = lst n (k + 1) := by
  apply Array.ext
  · simp [lst]
  · intro i h1 h2
    have hi : i < n := by simpa [lst] using h2
    have h3 : i < (lst n k).size := by simpa [lst] using hi
    rw [Array.getElem_setIfInBounds h3]
    simp only [lst, Array.getElem_ofFn]
    split
    · rename_i e; subst e; simp
    · rename_i e
      simp only [decide_eq_decide]
      omega

theorem run_any {fp : Nat → Fp} {K : S → Prop} {n : Nat} (htopo : ∀ (j : Nat) (o : Oper), ops[j]? = some o → ∀ e ∈ o.after, Region.binds .any e = true → e.on < j)
    (hap : ∀ i j, i < j → j < ops.size → ¬ Anc ops i j → Apart n (fp i).1 (fp i).2 (fp j).1 (fp j).2) :
    ∀ (l : List Oper) (k : Nat) (s : S), k + l.length = ops.size → (∀ j o, l[j]? = some o → ops[k + j]? = some o) → s.n = n → Wf s → Tg s → Tn s → aRun P ops fp K k l s → aAny P ops fp K l.length (lst ops.size k) s := by
  intro l
  induction l with
  | nil =>
    intro k s hk hl hsn wf tg tn h
    refine ⟨?_, s, Eqv.refl s, wf, h⟩
    rw [List.eq_nil_iff_forall_not_mem]
    intro j hj
    obtain ⟨h0, o, ho, _⟩ := mem_ready.1 hj
    have hjs : j < ops.size := (Array.getElem?_eq_some_iff.1 ho).1
    rw [lst_getD true hjs] at h0
    simp only [decide_eq_false_iff_not] at h0
    simp at hk
    omega
  | cons o r ih =>
    intro k s hk hl hsn wf tg tn h
    simp only [List.length_cons] at hk ⊢
    have ho : ops[k]? = some o := by simpa using hl 0 o rfl
    have hks : k < ops.size := by omega
    refine aAny_first ho r.length (lst ops.size k) s hsn wf tg tn ?_ ?_ (fun j hj hjk hna => ?_) ?_
    · refine mem_ready.2 ⟨by rw [lst_getD true hks]; simp, o, ho, fun e he hb => ?_⟩
      have := htopo k o ho e he hb
      rw [lst_getD false (by omega)]
      simpa using this
    · intro j o' hj ho' e he hb
      have hjs : j < ops.size := (Array.getElem?_eq_some_iff.1 ho').1
      rw [lst_getD false hjs] at hj
      have := htopo j o' ho' e he hb
      rw [lst_getD false (by omega)]
      simp at hj ⊢
      omega
    · rcases Nat.lt_or_ge j ops.size with hjs | hjs
      · rw [lst_getD true hjs] at hj
        simp only [decide_eq_false_iff_not] at hj
        exact hap k j (by omega) hjs hna
      · rw [lst_out true hjs] at hj; cases hj
    · rw [lst_set hks]
      have h : aStep P ops (fp k) o s (aRun P ops fp K (k + 1) r) := h
      obtain ⟨_, es, k1, k2, k3⟩ := aStep_det tg wf h
      refine k3 s ((Eqv.refl s).agr _) wf _ ?_
      exact ih (k + 1) _ (by omega) (fun j o' hj => by
        have := hl (j + 1) o' (by simpa using hj)
        rwa [show k + 1 + j = k + (j + 1) by omega]) ((aps_n _ _).trans hsn) (aps_wf wf k2.good) (tg_aps wf tg k2.good) (tn_aps wf tn k2.good) k1

/-- Operations in their written order, with what they touch. -/
def aSeq (P : Program) (ops : Array Oper) : List Oper → List Fp → S → (S → Prop) → Prop
  | [], tr, s, K => chk ops s.n tr.reverse = true ∧ K s
  | o :: r, tr, s, K => match o.guard with
    | none => live o s = true ∧ aOp P o s fun s' => aSeq P ops r (fpOf P ops o s :: tr) s' K
    | some (j, b) => match guardOf ops s j b with
      | some β => (β = b → live o (s.known ops j b) = true ∧ aOp P o (s.known ops j b) fun s' => aSeq P ops r (fpOf P ops o (s.known ops j b) :: tr) s' K) ∧
        (β = !b → (∀ d, o.dst = some d → d < s.n) ∧ aSeq P ops r (fpSkip ops s.n o :: tr) (skipS o (s.known ops j (!b))) K)
      | none => False

theorem aSeq_step {o : Oper} {r : List Oper} {tr : List Fp} {s : S} {K : S → Prop} (h : aSeq P ops (o :: r) tr s K) : ∃ f, aStep P ops f o s fun s' => aSeq P ops r (f :: tr) s' K := by
  unfold aSeq at h
  unfold aStep
  split at h
  · rename_i hg
    try simp only [hg]
    exact ⟨fpOf P ops o s, ⟨rfl, h.1⟩, h.2⟩
  · rename_i j b hg
    try simp only [hg]
    split at h <;> try exact h.elim
    rename_i β hβ
    by_cases hb : β = b
    · have h5 := h.1 hb
      rw [S.known_self (by rw [← hb]; exact hβ)] at h5
      refine ⟨fpOf P ops o s, ?_⟩
      rw [hβ]
      exact ⟨fun _ => ⟨⟨rfl, h5.1⟩, h5.2⟩, fun e => by subst hb; cases β <;> cases e⟩
    · have hb' : β = !b := by cases β <;> cases b <;> simp_all
      have h5 := h.2 hb'
      rw [S.known_self (by rw [← hb']; exact hβ)] at h5
      refine ⟨fpSkip ops s.n o, ?_⟩
      rw [hβ]
      exact ⟨fun e => absurd e hb, fun _ => ⟨⟨rfl, h5.1⟩, h5.2⟩⟩

def fpL (tr : List Fp) (k : Nat) : Fp := tr.getD k ([], [])
theorem aSeq_run {n : Nat} {K : S → Prop} : ∀ (l : List Oper) (tr : List Fp) (s : S), s.n = n → Wf s → Tg s → aSeq P ops l tr s K →
    ∃ tr2 : List Fp, tr2.length = l.length ∧ chk ops n (tr.reverse ++ tr2) = true ∧ aRun P ops (fpL (tr.reverse ++ tr2)) K tr.length l s
  | [], tr, s, hn, wf, tg, h => by
    subst hn
    exact ⟨[], rfl, by simpa using h.1, h.2⟩
  | o :: r, tr, s, hn, wf, tg, h => by
    obtain ⟨f, hs⟩ := aSeq_step h
    obtain ⟨_, es, k1, k2, k3⟩ := aStep_det tg wf hs
    obtain ⟨tr2, t1, t2, t3⟩ := aSeq_run r (f :: tr) _ ((aps_n es s).trans hn) (aps_wf wf k2.good) (tg_aps wf tg k2.good) k1
    have e : (f :: tr).reverse ++ tr2 = tr.reverse ++ f :: tr2 := by simp
    rw [e] at t2 t3
    refine ⟨f :: tr2, by simp [t1], t2, ?_⟩
    have hf : fpL (tr.reverse ++ f :: tr2) tr.length = f := by
      simp [fpL, List.getD_eq_getElem?_getD, List.getElem?_append]
    show aStep P ops (fpL (tr.reverse ++ f :: tr2) tr.length) o s _
    rw [hf]
    exact k3 s ((Eqv.refl s).agr _) wf _ (by simpa using t3)

/-- WHAT HOLDS BEHIND A REGION THAT DRAWS ITS ORDER. -/
def tsLt (n : Nat) : List (Nat × T) → Bool
  | [] => true
  | (x, _) :: r => decide (x < n) && tsLt n r
theorem tsLt_look {n : Nat} : ∀ {l : List (Nat × T)}, tsLt n l = true → ∀ x, n ≤ x → look l x = none
  | [], _, x, _ => rfl
  | (k, t) :: r, h, x, hx => by
    simp only [tsLt, Bool.and_eq_true, decide_eq_true_eq] at h
    have : k ≠ x := by omega
    simp only [look, if_neg this]
    exact tsLt_look h.2 x hx
theorem tsLt_tn {s : S} (wf : Wf s) (h : tsLt s.n s.ts = true) : Tn s := by
  intro x hx
  cases e : look s.vs x with
  | some t => exact (wf x (by simp [S.isVar, e])).2
  | none => simp [S.get, tsLt_look h x hx, e, T.target]
def aDraw (P : Program) (ops : Array Oper) (s : S) (K : S → Prop) : Prop := tsLt s.n s.ts = true ∧ aSeq P ops ops.toList [] s K

theorem aDraw_ok (hmix : P.follows .mixedOrders = true) (ops : Array Oper) : drawOf P ops (aDraw P ops) := by
  intro F w0 ext I0 s a w Q K id hF hok h kQ
  refine wp_region_any hmix ?_
  obtain ⟨wf, tg⟩ := hok.1.wf
  obtain ⟨hts, h⟩ := h
  have tn := tsLt_tn wf hts
  obtain ⟨tr, t1, t2, t3⟩ := aSeq_run (n := s.n) ops.toList [] s rfl wf tg h
  simp only [List.reverse_nil, List.nil_append, List.length_nil] at t2 t3
  simp only [chk, Bool.and_eq_true, List.all_eq_true, Bool.not_eq_true', List.contains_eq_mem, decide_eq_false_iff_not] at t2
  obtain ⟨c1, c3⟩ := t2
  have hlen : tr.length = ops.size := by simpa using t1
  have hst : Array.replicate ops.size false = lst ops.size 0 := by
    apply Array.ext
    · simp [lst]
    · intro i h1 h2; simp [lst]
  rw [hst]
  have hanc := (ancs_spec (ops := ops) ops.toList [] (fun j o hj => by simpa using hj) (fun k i hk => by simp at hk)).1
  have hall := run_any (P := P) (ops := ops) (fp := fpL tr) (K := K) (n := s.n) (fun j o ho e he hb => by
      have := topoB_spec c1 j o (by simpa using ho) e he hb
      simpa using this) (fun i j hij hj hna => by
      have hi : i < ops.size := by omega
      have ei : tr[i]? = some (tr[i]'(by omega)) := List.getElem?_eq_getElem _
      have ej : tr[j]? = some (tr[j]'(by omega)) := List.getElem?_eq_getElem _
      have fi : fpL tr i = tr[i]'(by omega) := by simp [fpL, List.getD_eq_getElem?_getD, ei]
      have fj : fpL tr j = tr[j]'(by omega) := by simp [fpL, List.getD_eq_getElem?_getD, ej]
      rw [fi, fj]
      rcases chkAll_spec c3 j _ ej i _ (by rw [List.nil_append]; exact ei) (by simpa using hij) with h1 | h1
      · exact absurd (hanc j i h1) hna
      · exact apartB_spec h1) ops.toList 0 s (by simp) (fun j o hj => by simpa using hj) rfl wf tg tn t3
  rw [Array.length_toList] at hall
  exact aAny_wp hF kQ _ _ _ _ _ (⟨hok.1.drew, hok.2⟩ : OkF F w0 ext I0 s a _) hall

/-- What follows operations. -/
def kSeqD (P : Program) (ops : Array Oper) (r : List Oper) (tr : List Fp) (K : S → Prop) (s : S) : Prop := aSeq P ops r tr s K
theorem aDraw_at (P : Program) (ops : Array Oper) (s : S) (K : S → Prop) : aDraw P ops s K = (tsLt s.n s.ts = true ∧ aSeq P ops ops.toList [] s K) := rfl
theorem aSeq_nil (P : Program) (ops : Array Oper) (tr : List Fp) (s : S) (K : S → Prop) : aSeq P ops [] tr s K = (chk ops s.n tr.reverse = true ∧ K s) := rfl
theorem aSeq_cons (P : Program) (ops : Array Oper) (o : Oper) (r : List Oper) (tr : List Fp) (s : S) (K : S → Prop) : aSeq P ops (o :: r) tr s K = match o.guard with
    | none => live o s = true ∧ aOp P o s (kSeqD P ops r (fpOf P ops o s :: tr) K)
    | some (j, b) => match guardOf ops s j b with
      | some β => (β = b → live o (s.known ops j b) = true ∧ aOp P o (s.known ops j b) (kSeqD P ops r (fpOf P ops o (s.known ops j b) :: tr) K)) ∧
        (β = !b → (∀ d, o.dst = some d → d < s.n) ∧ aSeq P ops r (fpSkip ops s.n o :: tr) (skipS o (s.known ops j (!b))) K)
      | none => False := rfl
theorem kSeqD_at (P : Program) (ops : Array Oper) (r : List Oper) (tr : List Fp) (K : S → Prop) (s : S) : kSeqD P ops r tr K s = aSeq P ops r tr s K := rfl
end

end Go.Ax

/- The words of a symbolic walk. -/
set_option linter.unusedVariables false
set_option linter.unusedSimpArgs false
namespace Go.Ax
open Go
/-- Is it the nil slice? -/
def isNilC : Operand → Bool
  | .const (.slice Option.none 0 0) => true
  | _ => false
theorem eMove_at (P : Program) (ty : TypeId) (d : Nat) (x : Operand) (s : S) (K : S → Prop) : eMove P ty d x s K = match isNilC x with
    | true => K (s.put d (.own (strideT P ty) []))
    | false => match (ev s x).t with
      | .own sz rows => match x with
        | .tmp t => K ((s.drop t).put d (.own sz rows))
        | _ => False
      | .tup cs => match x with
        | .tmp t => s.isVar t = false ∧ K ((s.drop t).put d (.tup cs))
        | _ => False
      | .el cells => K (s.put d (.el cells))
      | .one dd => K (s.put d (.one dd))
      | _ => match frz s x with
        | some (s', (false, [dd])) => K (s'.put d (.one dd))
        | some (s', (true, ds)) => K (s'.put d (.agg ds))
        | _ => False := by
  by_cases hx : x = .const (.slice Option.none 0 0)
  · subst hx; rfl
  · have h0 : isNilC x = false := by
      unfold isNilC
      split
      · exact absurd rfl hx
      · rfl
    rw [h0]
    simp only
    unfold eMove
    cases e : (ev s x).t with
    | one D =>
      have hf : frz s x = some (s, (false, [D])) := by rw [frz_R]; unfold frzR; rw [e]
      cases D with
      | v y => simp only [hf]
      | p y => simp only [hf]
      | c f y => simp only [hf]
      | l rows => cases rows with
        | cons r rs => simp only [hf]
        | nil =>
          simp only
    | _ => rfl
theorem int_one (k : IntKind) (a : Int) (h : Nat) : (∃ k', T.one (D.v (Value.int k a)) = T.one (D.v (Value.int k' (h : Int)))) ↔ a = h := by simp
-- a walk goes on only at a state that is told in full
theorem kOps_mk (P : Program) (ops : Array Oper) (r : List Oper) (K : S → Prop) (n : Nat) (ts vs : List (Nat × T)) : kOps P ops r K ⟨n, ts, vs⟩ = aOps P ops r ⟨n, ts, vs⟩ K := rfl
theorem kSeqD_mk (P : Program) (ops : Array Oper) (r : List Oper) (tr : List Fp) (K : S → Prop) (n : Nat) (ts vs : List (Nat × T)) : kSeqD P ops r tr K ⟨n, ts, vs⟩ = aSeq P ops r tr ⟨n, ts, vs⟩ K := rfl
theorem kSeq_mk (aD : Program → Array Oper → S → (S → Prop) → Prop) (P : Program) (y : Code) (Kn : S → Prop) (E : Nat → S → Prop) (R : S → Prop) (n : Nat) (ts vs : List (Nat × T)) : kSeq aD P y Kn E R ⟨n, ts, vs⟩ = aCode aD P y Kn E R ⟨n, ts, vs⟩ := rfl
theorem kLoop_mk (aD : Program → Array Oper → S → (S → Prop) → Prop) (P : Program) (body : Code) (E : Nat → S → Prop) (R : S → Prop) (K : S → Prop) (n : Nat) (ts vs : List (Nat × T)) : kLoop aD P body E R K ⟨n, ts, vs⟩ = aCode aD P body K E R ⟨n, ts, vs⟩ := rfl
theorem reads_value (f : Operand) (args : Array Operand) (tys : Array TypeId) : reads (.call ⟨.value f, args, tys⟩) = f :: args.toList := by simp [reads, Op.operands, Call.operands]
theorem reads_builtin (b : Builtin) (args : Array Operand) (tys : Array TypeId) : reads (.call ⟨.builtin b, args, tys⟩) = args.toList := by simp [reads, Op.operands, Call.operands]
theorem reads_build (t : TypeId) (ps : Array (Nat × Operand)) : reads (.build t ps) = ps.toList.map (·.2) := by simp [reads, Op.operands]
theorem reads_buildSlice (t : TypeId) (n : Nat) (ps : Array (Nat × Operand)) : reads (.buildSlice t n ps) = ps.toList.map (·.2) := by simp [reads, Op.operands]
theorem reads_move (x : Operand) : reads (.move x) = [x] := rfl
theorem reads_assign (x : Operand) : reads (.assign x) = [x] := rfl
theorem reads_load (t : TypeId) (x : Operand) : reads (.load t x) = [x] := rfl
theorem reads_store (t : TypeId) (a x : Operand) : reads (.store t a x) = [a, x] := rfl
theorem reads_bin (o : BinOp) (t u : TypeId) (a x : Operand) : reads (.binOp o t a x u) = [a, x] := rfl
theorem reads_un (o : UnOp) (t : TypeId) (x : Operand) : reads (.unOp o t x) = [x] := rfl
theorem reads_conv (t u : TypeId) (x : Operand) : reads (.convert t u x) = [x] := rfl
theorem reads_pick (c a b : Operand) : reads (.pick c a b) = [c, a, b] := rfl
theorem reads_alloc (t : TypeId) : reads (.alloc t) = [] := rfl
theorem reads_box (t : TypeId) (x : Operand) : reads (.box t x) = [x] := rfl
theorem reads_nil (x : Operand) : reads (.nilCheck x) = [x] := rfl
theorem reads_fieldAddr (t : TypeId) (x : Operand) (j : Nat) : reads (.fieldAddr t x j) = [x] := rfl
theorem reads_field (t : TypeId) (x : Operand) (j : Nat) : reads (.field t x j) = [x] := rfl
theorem reads_extract (x : Operand) (j : Nat) : reads (.extract x j) = [x] := rfl
theorem reads_indexAddr (t : TypeId) (x i : Operand) : reads (.indexAddr t x i) = [x, i] := rfl
theorem reads_index (t : TypeId) (x i : Operand) : reads (.index t x i) = [x, i] := rfl
theorem reads_make (t : TypeId) (x i : Operand) : reads (.makeSlice t x i) = [x, i] := rfl
theorem reads_slice (t : TypeId) (x : Operand) (l h m : Option Operand) : reads (.slice t x l h m) = [x] ++ l.toList ++ h.toList ++ m.toList := by simp [reads, Op.operands]
attribute [go_sem] reads_value reads_builtin reads_build reads_buildSlice reads_move reads_assign reads_load reads_store reads_bin reads_un reads_conv reads_pick reads_alloc reads_box reads_nil reads_fieldAddr reads_field reads_extract reads_indexAddr reads_index reads_make reads_slice
-- a guard whose value is known leaves one way: `ite` tells the walker to look at the condition first
theorem aOps_ite (P : Program) (ops : Array Oper) (o : Oper) (r : List Oper) (s : S) (K : S → Prop) : aOps P ops (o :: r) s K = match o.guard with
    | none => match nilTest o with
      | some (d, t, x) => nilOp P d t x s (kOps P ops r K)
      | none => match boxMove o s with
        | some (d, y, cells) => kBox d y cells s (kOps P ops r K)
        | none => aOp P o (preS P o s) (kOps P ops r K)
    | some (j, b) => match guardOf ops s j b with
      | some β => if β = b then aOp P o (preS P o (s.known ops j b)) (kOps P ops r K) else ((∀ d, o.dst = some d → d < s.n) ∧ aOps P ops r (skipS o (s.known ops j (!b))) K)
      | none => False := by
  rw [aOps_cons]
  rcases o.guard with _ | ⟨j, b⟩
  · rfl
  · simp only
    rcases guardOf ops s j b with _ | β
    · rfl
    · cases β <;> cases b <;> simp
theorem aSeq_ite (P : Program) (ops : Array Oper) (o : Oper) (r : List Oper) (tr : List Fp) (s : S) (K : S → Prop) : aSeq P ops (o :: r) tr s K = match o.guard with
    | none => live o s = true ∧ aOp P o s (kSeqD P ops r (fpOf P ops o s :: tr) K)
    | some (j, b) => match guardOf ops s j b with
      | some β => if β = b then live o (s.known ops j b) = true ∧ aOp P o (s.known ops j b) (kSeqD P ops r (fpOf P ops o (s.known ops j b) :: tr) K)
        else ((∀ d, o.dst = some d → d < s.n) ∧ aSeq P ops r (fpSkip ops s.n o :: tr) (skipS o (s.known ops j (!b))) K)
      | none => False := by
  rw [aSeq_cons]
  rcases o.guard with _ | ⟨j, b⟩
  · rfl
  · simp only
    rcases guardOf ops s j b with _ | β
    · rfl
    · cases β <;> cases b <;> simp
theorem aCode_ite (aD : Program → Array Oper → S → (S → Prop) → Prop) (P : Program) (c : Operand) (x y : Code) (Kn : S → Prop) (E : Nat → S → Prop) (R : S → Prop) (s : S) : aCode aD P (.cond c x y) Kn E R s = match opd s c with
    | .one (.v (.bool β)) => if β = true then aCode aD P x Kn E R s.shut else aCode aD P y Kn E R s.shut
    | _ => False := by
  rw [aCode_cond]
  rcases opd s c with _ | ⟨_ | _⟩ <;> try rfl
  rename_i v
  cases v <;> try rfl
  rename_i β
  cases β <;> simp
theorem ite_two (c : Prop) [h : Decidable c] (X Y : Prop) : (if c then X else Y) = ((c → X) ∧ (¬c → Y)) := by
  by_cases h : c <;> simp [h]
theorem ite_two_not (c : Prop) [h : Decidable (¬c)] (X Y : Prop) : (if ¬c then X else Y) = ((¬c → X) ∧ (c → Y)) := by
  by_cases h : c <;> simp [h]
theorem ite_two_tt (b : Bool) [h : Decidable (b = true)] (X Y : Prop) : (if b = true then X else Y) = ((b = true → X) ∧ (b = false → Y)) := by
  cases b <;> simp
theorem ite_two_ff (b : Bool) [h : Decidable (b = false)] (X Y : Prop) : (if b = false then X else Y) = ((b = false → X) ∧ (b = true → Y)) := by
  cases b <;> simp
attribute [go_sem] ite_two
attribute [go_sem high] ite_two_not ite_two_tt ite_two_ff
-- the walker's own steps bear their proofs: the kernel is not to find them by unfolding code
section
variable (aD : Program → Array Oper → S → (S → Prop) → Prop) (P : Program) (Kn : S → Prop) (E : Nat → S → Prop) (R : S → Prop)
theorem p_kOps (ops : Array Oper) (r : List Oper) (K : S → Prop) (n : Nat) (ts vs : List (Nat × T)) : kOps P ops r K ⟨n, ts, vs⟩ = aOps P ops r ⟨n, ts, vs⟩ K := congrArg id (kOps_mk P ops r K n ts vs)
theorem p_kSeqD (ops : Array Oper) (r : List Oper) (tr : List Fp) (K : S → Prop) (n : Nat) (ts vs : List (Nat × T)) : kSeqD P ops r tr K ⟨n, ts, vs⟩ = aSeq P ops r tr ⟨n, ts, vs⟩ K := congrArg id (kSeqD_mk P ops r tr K n ts vs)
theorem p_kSeq (y : Code) (n : Nat) (ts vs : List (Nat × T)) : kSeq aD P y Kn E R ⟨n, ts, vs⟩ = aCode aD P y Kn E R ⟨n, ts, vs⟩ := congrArg id (kSeq_mk aD P y Kn E R n ts vs)
theorem p_kLoop (body : Code) (K : S → Prop) (n : Nat) (ts vs : List (Nat × T)) : kLoop aD P body E R K ⟨n, ts, vs⟩ = aCode aD P body K E R ⟨n, ts, vs⟩ := congrArg id (kLoop_mk aD P body E R K n ts vs)
theorem p_skip (s : S) : aCode aD P .skip Kn E R s = Kn s := congrArg id (aCode_skip aD P Kn E R s)
theorem p_region (id' : Nat) (ops : Array Oper) (s : S) : aCode aD P (.region id' ops false) Kn E R s = aOps P ops ops.toList s.shut Kn := congrArg id (aCode_region aD P id' ops Kn E R s)
theorem p_draw (id' : Nat) (ops : Array Oper) (s : S) : aCode aD P (.region id' ops true) Kn E R s = aD P ops (preD P ops.toList s.shut) Kn := congrArg id (aCode_draw aD P id' ops Kn E R s)
theorem p_seq (x y : Code) (s : S) : aCode aD P (.seq x y) Kn E R s = aCode aD P x (kSeq aD P y Kn E R) E R s := congrArg id (aCode_seq aD P x y Kn E R s)
theorem p_block (id' : Nat) (body : Code) (s : S) : aCode aD P (.block id' body) Kn E R s = aCode aD P body Kn (kBlock id' Kn E) R s := congrArg id (aCode_block aD P id' body Kn E R s)
theorem p_exit (id' : Nat) (s : S) : aCode aD P (.exit id') Kn E R s = E id' s := congrArg id (aCode_exit aD P id' Kn E R s)
theorem p_ret (s : S) : aCode aD P .ret Kn E R s = R s := congrArg id (aCode_ret aD P Kn E R s)
theorem p_aDraw (ops : Array Oper) (s : S) (K : S → Prop) : aDraw P ops s K = (tsLt s.n s.ts = true ∧ aSeq P ops ops.toList [] s K) := congrArg id (aDraw_at P ops s K)
theorem p_aOps_nil (ops : Array Oper) (s : S) (K : S → Prop) : aOps P ops [] s K = K s := congrArg id (aOps_nil P ops s K)
theorem p_aSeq_nil (ops : Array Oper) (tr : List Fp) (s : S) (K : S → Prop) : aSeq P ops [] tr s K = (chk ops s.n tr.reverse = true ∧ K s) := congrArg id (aSeq_nil P ops tr s K)
theorem app_cons {α : Type} (a : α) (l m : List α) : List.append (a :: l) m = a :: List.append l m := congrArg id (Eq.refl _)
theorem app_nil {α : Type} (m : List α) : List.append [] m = m := congrArg id (Eq.refl _)
end
attribute [go_sem] p_kOps p_kSeqD p_kLoop eMove_at isNilC int_one p_skip p_region p_draw p_seq aCode_ite p_block p_exit p_ret kBlock_at p_aOps_nil aOps_ite p_aDraw p_aSeq_nil aSeq_ite app_cons app_nil
  boxMove kBox ownAny preD preS frzLoad frzLs nilTest nilOp frzCaps frzCap capDs capsD capA
  start startV argT aOp loud eOp eBuild eBuildSlice eMake eAppend eStore take1 fillD frzs frza rowsOf frz ev opd cT cD cDs qOp qMove qLoad partD foldMM binV intBin unV convV kPut kV kCall kFrz S.get S.put S.putT S.putV S.upd S.drop S.noC noC S.isVar S.shut look setv kill T.target
  guardOf S.known skipS isOwnT leafD args? R.lst R.arg R.plain Comp.plain Comp.flat D.flat resT
  Ret retCs retC cellDs cellD
  startX startVX xT xF XA.tt consF T.isBref xState gives takes XE.give XE.take handed
  live liveX fpOf fpSkip dstL rdo lop lrd tsLt rdq rdx tfp wr wop wx gslot
  List.getElem?_toArray List.getElem?_cons_zero List.getElem?_cons_succ
  Bool.false_eq_true Bool.or_false Bool.or_true true_and and_true true_or Bool.not_true Bool.not_false forall_const Option.some.injEq forall_eq' false_implies implies_true decide_eq_true_eq decide_eq_false_iff_not Bool.true_and Bool.and_true Bool.false_and Bool.and_false Bool.true_or Bool.false_or
  Option.map_some Option.map_none List.all_cons List.all_nil List.any_cons List.any_nil List.map_cons List.map_nil List.nil_append List.cons_append List.append_nil List.flatMap_cons List.flatMap_nil List.reverse_cons List.reverse_nil List.take_zero List.take_succ_cons List.drop_succ_cons List.take_nil List.drop_nil List.set_cons_zero List.set_cons_succ Option.toList
  List.getElem?_nil or_true or_false false_or and_false false_and and_self
  bne_iff_ne bne_eq_false_iff_eq beq_iff_eq beq_eq_false_iff_ne Int.ofNat_inj exists_eq_left exists_eq_left' List.drop_zero List.length_cons List.length_nil Nat.zero_add ne_eq
  Bool.true_eq_false not_true_eq_false not_false_eq_true
  Option.isSome_some Option.isSome_none Option.getD_some Option.getD_none Option.bind_some
end Go.Ax

/- Values of the program as numbers. -/
set_option linter.unusedVariables false
set_option linter.unusedSimpArgs false
namespace Go.Ax
open Go
def uD (d : Nat) : D := .v (.int .u64 d)
def rowsU (ds : List Nat) : List (List D) := ds.map fun d : Nat => [.v (.int .u64 d)]
theorem length_rowsU (ds : List Nat) : (rowsU ds).length = ds.length := by simp [rowsU]
theorem getD_rowsU (ds : List Nat) (i : Nat) : (rowsU ds)[i]?.getD [.v (.int .u64 0)] = [.v (.int .u64 ((ds[i]?.getD 0 : Nat) : Int))] := by
  simp only [rowsU, List.getElem?_map]
  cases ds[i]? <;> rfl
theorem getD_rowsU' (ds : List Nat) (i : Nat) : (rowsU ds).getD i [.v (.int .u64 0)] = [.v (.int .u64 ((ds[i]?.getD 0 : Nat) : Int))] := by
  rw [List.getD_eq_getElem?_getD]; exact getD_rowsU ds i
theorem wrap_u64 (n : Nat) : IntKind.u64.wrap (n : Int) = ((n % 2 ^ 64 : Nat) : Int) := by
  simp [IntKind.wrap, IntKind.bits, IntKind.signed]
theorem wrap_add_u64 (a b : Nat) : IntKind.u64.wrap ((a : Int) + (b : Int)) = (((a + b) % 2 ^ 64 : Nat) : Int) := by
  rw [← wrap_u64]; simp
theorem wrap_mul_u64 (a b : Nat) : IntKind.u64.wrap ((a : Int) * (b : Int)) = (((a * b) % 2 ^ 64 : Nat) : Int) := by
  rw [← wrap_u64]; simp
theorem shr_u64 (a b : Nat) : Int.fdiv (a : Int) (2 ^ (min (Int.toNat (b : Int)) IntKind.u64.bits)) = ((a / 2 ^ (min b 64) : Nat) : Int) := by
  simp only [IntKind.bits, Int.toNat_natCast]
  rw [Int.fdiv_eq_ediv_of_nonneg _ (Int.pow_nonneg (by decide))]
  simp
theorem shr32_u64 (a : Nat) : Int.fdiv (a : Int) (2 ^ (min (Int.toNat 32) 64)) = ((a / 2 ^ 32 : Nat) : Int) := shr_u64 a 32
theorem i64_wrap (x : Int) (h1 : -9223372036854775808 ≤ x) (h2 : x < 9223372036854775808) : IntKind.i64.wrap x = x := by
  have e1 : (2 : Int) ^ 64 = 18446744073709551616 := by decide
  have e2 : (2 : Int) ^ (64 - 1) = 9223372036854775808 := by decide
  simp only [IntKind.wrap, IntKind.bits, IntKind.signed, e1, e2, Bool.true_and, decide_eq_true_eq]
  split <;> omega
theorem and32_u64 (a : Nat) : Go.bits .and .u64 (a : Int) 4294967295 = ((a % 2 ^ 32 : Nat) : Int) := by
  have h : (BitVec.ofInt 64 (a : Int) &&& BitVec.ofInt 64 4294967295).toNat = a % 2 ^ 32 := by
    rw [BitVec.toNat_and]
    have h1 : (BitVec.ofInt 64 (a : Int)).toNat = a % 2 ^ 64 := by simp [BitVec.toNat_ofInt]
    have h2 : (BitVec.ofInt 64 4294967295).toNat = 2 ^ 32 - 1 := by decide
    rw [h1, h2, Nat.and_two_pow_sub_one_eq_mod]
    omega
  show IntKind.u64.wrap ((BitVec.ofInt 64 (a : Int) &&& BitVec.ofInt 64 4294967295).toNat : Int) = _
  rw [h, wrap_u64]
  congr 1
  omega
theorem rowsU_len (ds : List Nat) : (∀ r ∈ rowsU ds, r.length = 1) = True := by simp [rowsU]
theorem rowsU_take (ds : List Nat) (n : Nat) : (rowsU ds).take n = rowsU (ds.take n) := by simp [rowsU]
theorem rowsU_append (ds es : List Nat) : rowsU ds ++ rowsU es = rowsU (ds ++ es) := by simp [rowsU]
theorem rowsU_one (d : Nat) : [[D.v (.int .u64 (d : Int))]] = rowsU [d] := rfl
theorem rowsU_set (ds : List Nat) (i : Nat) (d : Nat) : (rowsU ds).set i [D.v (.int .u64 (d : Int))] = rowsU (ds.set i d) := by simp [rowsU, List.map_set]
theorem rowsU_one_len (ds : List Nat) (i : Nat) (z : D) : ((rowsU ds).getD i [z]).length = 1 := by
  rw [List.getD_eq_getElem?_getD]
  simp only [rowsU, List.getElem?_map]
  cases ds[i]? <;> rfl
theorem rowsU_one_drop (ds : List Nat) (i : Nat) (z : D) : ((rowsU ds).getD i [z]).drop 1 = [] := by
  rw [List.getD_eq_getElem?_getD]
  simp only [rowsU, List.getElem?_map]
  cases ds[i]? <;> rfl
theorem rowsU_replicate (n : Nat) : List.replicate n [D.v (.int .u64 0)] = rowsU (List.replicate n 0) := by simp [rowsU]
attribute [go_sem] rowsU_one_len rowsU_one_drop rowsU_replicate zrowAt List.replicate_zero List.replicate_succ
attribute [go_sem] shr32_u64 and32_u64 wrap_add_u64 wrap_mul_u64 rowsU_len rowsU_take length_rowsU getD_rowsU getD_rowsU'
end Go.Ax

/- Whole numbers by digits of 32 bits: plain arithmetic. -/
set_option linter.unusedVariables false
set_option linter.unusedSimpArgs false
namespace Go.Ax

/-- The base. -/
def BB : Nat := 4294967296
theorem BB_pos : 0 < BB := by decide
def valU : List Nat → Nat
  | [] => 0
  | d :: r => d + BB * valU r
def digs (n : Nat) : List Nat := if h : n = 0 then [] else n % BB :: digs (n / BB)
termination_by n
decreasing_by exact Nat.div_lt_self (Nat.pos_of_ne_zero h) (by decide)
theorem digs_zero : digs 0 = [] := by rw [digs]; simp
theorem digs_pos {n : Nat} (h : n ≠ 0) : digs n = n % BB :: digs (n / BB) := by rw [digs, dif_neg h]
theorem val_digs (n : Nat) : valU (digs n) = n := by
  induction n using Nat.strongRecOn with
  | _ n ih =>
    by_cases h : n = 0
    · subst h; rw [digs_zero]; rfl
    · rw [digs_pos h, valU, ih _ (Nat.div_lt_self (Nat.pos_of_ne_zero h) (by decide))]
      exact Nat.mod_add_div n BB
theorem digs_lt (n : Nat) : ∀ d ∈ digs n, d < BB := by
  induction n using Nat.strongRecOn with
  | _ n ih =>
    by_cases h : n = 0
    · subst h; rw [digs_zero]; simp
    · rw [digs_pos h]
      intro d hd
      rcases List.mem_cons.1 hd with rfl | hd
      · exact Nat.mod_lt _ BB_pos
      · exact ih _ (Nat.div_lt_self (Nat.pos_of_ne_zero h) (by decide)) d hd
theorem digs_get (n i : Nat) : (digs n)[i]?.getD 0 = n / BB ^ i % BB := by
  induction i generalizing n with
  | zero =>
    by_cases h : n = 0
    · subst h; rw [digs_zero]; simp
    · rw [digs_pos h]; simp
  | succ i ih =>
    by_cases h : n = 0
    · subst h; rw [digs_zero]; simp
    · rw [digs_pos h, List.getElem?_cons_succ, ih, Nat.pow_succ, Nat.mul_comm, Nat.div_div_eq_div_mul]
theorem digs_len (n k : Nat) : (digs n).length ≤ k ↔ n < BB ^ k := by
  induction k generalizing n with
  | zero =>
    by_cases h : n = 0
    · subst h; rw [digs_zero]; simp
    · rw [digs_pos h]; simp; omega
  | succ k ih =>
    by_cases h : n = 0
    · subst h; rw [digs_zero]; simp [Nat.pow_pos BB_pos]
    · rw [digs_pos h, List.length_cons, Nat.add_le_add_iff_right, ih, Nat.pow_succ, Nat.div_lt_iff_lt_mul BB_pos]
theorem valU_digits {ds : List Nat} (h : ∀ d ∈ ds, d < BB) (i : Nat) : valU ds / BB ^ i % BB = ds[i]?.getD 0 := by
  induction ds generalizing i with
  | nil => simp [valU]
  | cons d r ih =>
    have hd : d < BB := h d (by simp)
    cases i with
    | zero => simp [valU, Nat.add_mul_mod_self_left, Nat.mod_eq_of_lt hd]
    | succ i =>
      rw [List.getElem?_cons_succ, ← ih (fun d hd => h d (by simp [hd])), Nat.pow_succ, Nat.mul_comm, ← Nat.div_div_eq_div_mul]
      congr 2
      rw [valU, Nat.add_mul_div_left _ _ BB_pos, Nat.div_eq_of_lt hd, Nat.zero_add]
theorem valU_lt {ds : List Nat} (h : ∀ d ∈ ds, d < BB) : valU ds < BB ^ ds.length := by
  induction ds with
  | nil => simp [valU]
  | cons d r ih =>
    have hd : d < BB := h d (by simp)
    have := ih (fun d hd => h d (by simp [hd]))
    rw [valU, List.length_cons, Nat.pow_succ]
    calc d + BB * valU r < BB + BB * valU r := by omega
      _ = BB * (valU r + 1) := by rw [Nat.mul_add]; omega
      _ ≤ BB * BB ^ r.length := Nat.mul_le_mul_left _ this
      _ = BB ^ r.length * BB := Nat.mul_comm _ _
/-- Lists of digits are alike if their digits are. -/
theorem ext_get {ds es : List Nat} (hl : ds.length = es.length) (h : ∀ i, i < ds.length → ds[i]?.getD 0 = es[i]?.getD 0) : ds = es := by
  apply List.ext_getElem hl
  intro i h1 h2
  have := h i h1
  simpa [List.getElem?_eq_getElem h1, List.getElem?_eq_getElem h2] using this
theorem valU_inj {ds es : List Nat} (hd : ∀ d ∈ ds, d < BB) (he : ∀ d ∈ es, d < BB) (hl : ds.length = es.length) (h : valU ds = valU es) : ds = es :=
  ext_get hl fun i _ => by rw [← valU_digits hd, ← valU_digits he, h]
/-- Trimmed, they are the digits of what they are worth. -/
theorem trim_digs {ds : List Nat} (hd : ∀ d ∈ ds, d < BB) {n : Nat} (hn : n ≤ ds.length) (h0 : ∀ k, n ≤ k → ds[k]?.getD 0 = 0) (h1 : n = 0 ∨ ds[n - 1]?.getD 0 ≠ 0) : ds.take n = digs (valU ds) := by
  have hlt : valU ds < BB ^ n := by
    have e : ∀ {ds : List Nat} (n : Nat), (∀ d ∈ ds, d < BB) → (∀ k, n ≤ k → ds[k]?.getD 0 = 0) → valU ds < BB ^ n := by
      intro ds
      induction ds with
      | nil => intro n _ _; simp [valU, Nat.pow_pos BB_pos]
      | cons d r ih =>
        intro n hd h0
        cases n with
        | zero =>
          have a := h0 0 (Nat.le_refl _)
          have b := ih 0 (fun d h => hd d (by simp [h])) (fun k _ => by have := h0 (k + 1) (by omega); simpa using this)
          simp at a b
          simp [valU, a, b]
        | succ n =>
          have b := ih n (fun d h => hd d (by simp [h])) (fun k hk => by have := h0 (k + 1) (by omega); simpa using this)
          have hdd : d < BB := hd d (by simp)
          rw [valU, Nat.pow_succ]
          calc d + BB * valU r < BB + BB * valU r := by omega
            _ = BB * (valU r + 1) := by rw [Nat.mul_add]; omega
            _ ≤ BB * BB ^ n := Nat.mul_le_mul_left _ b
            _ = BB ^ n * BB := Nat.mul_comm _ _
    exact e n hd h0
  have hlen : (digs (valU ds)).length = n := by
    have a := (digs_len (valU ds) n).2 hlt
    rcases h1 with h1 | h1
    · omega
    · rcases Nat.lt_or_ge (digs (valU ds)).length n with hlt2 | hge
      · exfalso
        apply h1
        rw [← valU_digits hd, ← digs_get]
        rw [List.getElem?_eq_none (by omega)]
        rfl
      · omega
  refine ext_get (by rw [hlen, List.length_take]; omega) fun i hi => ?_
  have hi' : i < n := by rw [List.length_take] at hi; omega
  rw [digs_get, valU_digits hd, List.getElem?_take, if_pos hi']
end Go.Ax
