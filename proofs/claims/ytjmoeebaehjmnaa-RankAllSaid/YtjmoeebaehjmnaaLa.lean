/- Loops of printed functions, in plain terms. -/
import Derived.Test.YtjmoeebaehjmnaaGa
set_option linter.unusedVariables false
set_option linter.unusedSimpArgs false
set_option linter.unusedVariables false
set_option linter.unusedSimpArgs false
namespace Go.Ax
open Go
theorem wsucc {i : Nat} (h : i < 2 ^ 60) : IntKind.i64.wrap ((i : Int) + 1) = ((i + 1 : Nat) : Int) := by rw [i64_wrap _ (by omega) (by omega)]; omega
theorem wpred {i : Nat} (h : i < 2 ^ 60) : IntKind.i64.wrap ((i : Int) - 1) = (i : Int) - 1 := i64_wrap _ (by omega) (by omega)
theorem FUEL_big {n : Nat} (h : n < 2 ^ 59) : n < FUEL := by unfold FUEL; omega
theorem rd_nat {α : Type} [Inhabited α] (l : List α) (i : Nat) : rd l (i : Int) = l[i]?.getD default := by simp [rd]
theorem rd_get {α : Type} [Inhabited α] (l : List α) {i : Nat} (h : i < l.length) : rd l (i : Int) = l[i] := by simp [rd, h]
/-- A loop that tells r at the first bad place. -/
theorem loop_all {σ ρ : Type} (L : Nat → Int → Option (Flow σ ρ)) (n : Nat) (P : Nat → Bool) (r : ρ) (e : σ) (h0 : ∀ k (i : Nat), i < n → P i = true → L (k + 1) i = L k ((i + 1 : Nat) : Int))
    (h1 : ∀ k (i : Nat), i < n → P i = false → L (k + 1) i = some (.ret r)) (h2 : ∀ k, L (k + 1) (n : Int) = some (.out e)) (hn : n < 2 ^ 59) :
    L FUEL 0 = some (if (List.range n).all P = true then .out e else .ret r) := by
  have key : ∀ (d i k : Nat), i + d = n → d < k → L k (i : Int) = some (if (List.range' i d).all P = true then .out e else .ret r) := by
    intro d
    induction d with
    | zero =>
      intro i k hi hk
      obtain ⟨k, rfl⟩ : ∃ m, k = m + 1 := ⟨k - 1, by omega⟩
      have : i = n := by omega
      subst this
      rw [h2]; simp
    | succ d ih =>
      intro i k hi hk
      obtain ⟨k, rfl⟩ : ∃ m, k = m + 1 := ⟨k - 1, by omega⟩
      cases hp : P i with
      | true => rw [h0 k i (by omega) hp, ih (i + 1) k (by omega) (by omega), List.range'_succ, List.all_cons, hp, Bool.true_and]
      | false => rw [h1 k i (by omega) hp, List.range'_succ, List.all_cons, hp, Bool.false_and]; rfl
  have := key n 0 FUEL (by omega) (FUEL_big hn)
  rw [← List.range_eq_range'] at this
  exact this
/-- n steps. -/
def itr {σ : Type} (g : Nat → σ → σ) : Nat → σ → σ
  | 0, s => s
  | n + 1, s => g n (itr g n s)
/-- A loop that goes through to its end. -/
theorem loop_fold {σ R : Type} (L : Nat → Int → σ → Option R) (n : Nat) (g : Nat → σ → σ) (I : Nat → σ → Prop) (E : σ → R) (s0 : σ)
    (hs : ∀ k (i : Nat) s, i < n → I i s → L (k + 1) i s = L k ((i + 1 : Nat) : Int) (g i s) ∧ I (i + 1) (g i s)) (he : ∀ k s, I n s → L (k + 1) (n : Int) s = some (E s)) (h0 : I 0 s0) (hn : n < 2 ^ 59) :
    L FUEL 0 s0 = some (E (itr g n s0)) ∧ I n (itr g n s0) := by
  have inv : ∀ i, i ≤ n → I i (itr g i s0) := by
    intro i
    induction i with
    | zero => intro _; exact h0
    | succ i ih => intro hi; exact (hs 0 i _ (by omega) (ih (by omega))).2
  have key : ∀ (d i k : Nat), i + d = n → d < k → L k (i : Int) (itr g i s0) = some (E (itr g n s0)) := by
    intro d
    induction d with
    | zero =>
      intro i k hi hk
      obtain ⟨k, rfl⟩ : ∃ m, k = m + 1 := ⟨k - 1, by omega⟩
      have : i = n := by omega
      subst this
      exact he k _ (inv i (by omega))
    | succ d ih =>
      intro i k hi hk
      obtain ⟨k, rfl⟩ : ∃ m, k = m + 1 := ⟨k - 1, by omega⟩
      rw [(hs k i _ (by omega) (inv i (by omega))).1]
      exact ih (i + 1) k (by omega) (by omega)
  exact ⟨key n 0 FUEL (by omega) (FUEL_big hn), inv n (Nat.le_refl n)⟩
/-- A loop that goes through, or stops at some place with an answer. -/
theorem loop_find {σ ρ : Type} (L : Nat → Int → Option (Flow σ ρ)) (n : Nat) (P : Nat → Bool) (r : Nat → ρ) (e : σ) (h0 : ∀ k (i : Nat), i < n → P i = false → L (k + 1) i = L k ((i + 1 : Nat) : Int))
    (h1 : ∀ k (i : Nat), i < n → P i = true → L (k + 1) i = some (.ret (r i))) (h2 : ∀ k, L (k + 1) (n : Int) = some (.out e)) (hn : n < 2 ^ 59) :
    L FUEL 0 = some (match (List.range n).find? P with | some i => .ret (r i) | none => .out e) := by
  have key : ∀ (d i k : Nat), i + d = n → d < k → L k (i : Int) = some (match (List.range' i d).find? P with | some i => .ret (r i) | none => .out e) := by
    intro d
    induction d with
    | zero =>
      intro i k hi hk
      obtain ⟨k, rfl⟩ : ∃ m, k = m + 1 := ⟨k - 1, by omega⟩
      have : i = n := by omega
      subst this
      rw [h2]; simp
    | succ d ih =>
      intro i k hi hk
      obtain ⟨k, rfl⟩ : ∃ m, k = m + 1 := ⟨k - 1, by omega⟩
      cases hp : P i with
      | false => rw [h0 k i (by omega) hp, ih (i + 1) k (by omega) (by omega), List.range'_succ, List.find?_cons, hp]
      | true => rw [h1 k i (by omega) hp, List.range'_succ, List.find?_cons, hp]
  have := key n 0 FUEL (by omega) (FUEL_big hn)
  rw [← List.range_eq_range'] at this
  exact this
theorem flow_if {σ ρ : Type} (c : Prop) [Decidable c] (e : σ) (r : ρ) (k : σ → Option ρ) : ((if c then Flow.out e else Flow.ret r : Flow σ ρ).go k) = if c then k e else some r := by split <;> rfl
theorem ifr {α : Type} {c : Prop} [Decidable c] {A B r : α} (h1 : c → A = r) (h2 : ¬c → B = r) : (if c then A else B) = r := by
  by_cases h : c
  · rw [if_pos h]; exact h1 h
  · rw [if_neg h]; exact h2 h
theorem all_range_iff {n : Nat} {P : Nat → Bool} : (List.range n).all P = true ↔ ∀ i, i < n → P i = true := by simp [List.all_eq_true]
theorem bigOk_of {z : Int} (h : z.natAbs < 2 ^ 250) : BigOk z := by
  have : (2 : Nat) ^ 250 ≤ BB ^ 12 := by decide
  unfold BigOk; omega
end Go.Ax

/- More on loops of printed functions, in plain terms. -/
set_option linter.unusedVariables false
set_option linter.unusedSimpArgs false
namespace Go.Ax
open Go
/-- A loop with a measure and an invariant. -/
theorem loop_inv {S R : Type} (L : Nat → S → Option R) (Inv : S → Prop) (μ : S → Nat) (Q : R → Prop)
    (h : ∀ k s, Inv s → (∃ s', L (k + 1) s = L k s' ∧ Inv s' ∧ μ s' < μ s) ∨ (∃ r, L (k + 1) s = some r ∧ Q r)) {s0 : S} (h0 : Inv s0) (hm : μ s0 < 2 ^ 59) :
    ∃ r, L FUEL s0 = some r ∧ Q r := by
  have key : ∀ (d : Nat) (s : S) (k : Nat), Inv s → μ s ≤ d → d < k → ∃ r, L k s = some r ∧ Q r := by
    intro d
    induction d with
    | zero =>
      intro s k hi hd hk
      obtain ⟨k, rfl⟩ : ∃ m, k = m + 1 := ⟨k - 1, by omega⟩
      rcases h k s hi with ⟨s', _, _, hm⟩ | h
      · omega
      · exact h
    | succ d ih =>
      intro s k hi hd hk
      obtain ⟨k, rfl⟩ : ∃ m, k = m + 1 := ⟨k - 1, by omega⟩
      rcases h k s hi with ⟨s', e, hi', hm⟩ | h
      · rw [e]; exact ih s' k hi' (by omega) (by omega)
      · exact h
  exact key (μ s0) s0 FUEL h0 (Nat.le_refl _) (FUEL_big hm)
theorem take_succ_rd {α : Type} [Inhabited α] (l : List α) {i : Nat} (h : i < l.length) : l.take (i + 1) = l.take i ++ [rd l (i : Int)] := by
  rw [rd_get l h, List.take_succ_eq_append_getElem h]
theorem rd_mem {α : Type} [Inhabited α] {l : List α} {i : Nat} (h : i < l.length) : rd l (i : Int) ∈ l := by rw [rd_get l h]; exact List.getElem_mem _
/-- A loop over a list that gathers; the state ahead of the place. -/
theorem loop_gather {α β : Type} [Inhabited α] (L : Nat → List β → Int → Option (List β × Int)) (l : List α) (g : α → List β)
    (hs : ∀ k (i : Nat) s, i < l.length → s = (l.take i).flatMap g → L (k + 1) s i = L k (s ++ g (rd l (i : Int))) ((i + 1 : Nat) : Int))
    (he : ∀ k s, L (k + 1) s (l.length : Int) = some (s, (l.length : Int))) (hn : l.length < 2 ^ 59) :
    L FUEL [] 0 = some (l.flatMap g, (l.length : Int)) := by
  obtain ⟨r, h1, h2⟩ := loop_inv (fun k (p : List β × Nat) => L k p.1 (p.2 : Int)) (fun p => p.2 ≤ l.length ∧ p.1 = (l.take p.2).flatMap g) (fun p => l.length - p.2) (fun r => r = (l.flatMap g, (l.length : Int)))
    (fun k p hp => by
      obtain ⟨s, i⟩ := p
      obtain ⟨hi, hs'⟩ := hp
      by_cases h : i < l.length
      · refine .inl ⟨(s ++ g (rd l (i : Int)), i + 1), hs k i s h hs', ⟨h, ?_⟩, by simp only; omega⟩
        simp only at hs' ⊢
        rw [take_succ_rd l h, List.flatMap_append, ← hs']
        simp
      · have e : i = l.length := by simp only at hi; omega
        subst e
        refine .inr ⟨_, he k s, ?_⟩
        simp only at hs' ⊢
        rw [hs', List.take_length]) (s0 := ([], 0)) ⟨Nat.zero_le _, by simp⟩ (by simp only; omega)
  rw [show ((0 : Nat) : Int) = 0 from rfl] at h1
  rw [h1, h2]
theorem flatMap_if {α β : Type} (p : α → Prop) [DecidablePred p] (f : α → β) (l : List α) : l.flatMap (fun x => if p x then [f x] else []) = (l.filter (fun x => decide (p x))).map f := by
  induction l with
  | nil => rfl
  | cons x l ih =>
    rw [List.flatMap_cons, ih]
    by_cases h : p x <;> simp [h]
theorem flatMap_one {α β : Type} (f : α → β) (l : List α) : l.flatMap (fun x => [f x]) = l.map f := by
  induction l with
  | nil => rfl
  | cons x l ih => rw [List.flatMap_cons, ih]; rfl
theorem flatMap_if_len {α β : Type} (p : α → Prop) [DecidablePred p] (f : α → β) (l : List α) : (l.flatMap (fun x => if p x then [f x] else [])).length ≤ l.length := by
  rw [flatMap_if, List.length_map]; exact List.length_filter_le _ _
/-- A loop over a list that sums up. -/
theorem loop_sum {α σ : Type} [Inhabited α] (L : Nat → σ → Int → Option (σ × Int)) (l : List α) (g : σ → α → σ) (I : Nat → σ → Prop) (s0 : σ) (h0 : I 0 s0)
    (hs : ∀ k (i : Nat) s, i < l.length → I i s → s = (l.take i).foldl g s0 → L (k + 1) s i = L k (g s (rd l (i : Int))) ((i + 1 : Nat) : Int) ∧ I (i + 1) (g s (rd l (i : Int))))
    (he : ∀ k s, L (k + 1) s (l.length : Int) = some (s, (l.length : Int))) (hn : l.length < 2 ^ 59) :
    L FUEL s0 0 = some (l.foldl g s0, (l.length : Int)) := by
  obtain ⟨r, h1, h2⟩ := loop_inv (fun k (p : σ × Nat) => L k p.1 (p.2 : Int)) (fun p => p.2 ≤ l.length ∧ I p.2 p.1 ∧ p.1 = (l.take p.2).foldl g s0) (fun p => l.length - p.2) (fun r => r = (l.foldl g s0, (l.length : Int)))
    (fun k p hp => by
      obtain ⟨s, i⟩ := p
      obtain ⟨hi, hI, hs'⟩ := hp
      by_cases h : i < l.length
      · obtain ⟨e, hI'⟩ := hs k i s h hI hs'
        refine .inl ⟨(g s (rd l (i : Int)), i + 1), e, ⟨h, hI', ?_⟩, by simp only; omega⟩
        simp only at hs' ⊢
        rw [take_succ_rd l h, List.foldl_append, ← hs']
        rfl
      · have e : i = l.length := by simp only at hi; omega
        subst e
        refine .inr ⟨_, he k s, ?_⟩
        simp only at hs' ⊢
        rw [hs', List.take_length]) (s0 := (s0, 0)) ⟨Nat.zero_le _, h0, by simp⟩ (by simp only; omega)
  rw [show ((0 : Nat) : Int) = 0 from rfl] at h1
  rw [h1, h2]
theorem foldl_add_sum (l : List Int) (s : Int) : l.foldl (· + ·) s = s + l.sum := by
  induction l generalizing s with
  | nil => simp
  | cons x l ih => rw [List.foldl_cons, ih, List.sum_cons]; omega
/-- A loop that tells r at the first bad place: one obligation. -/
theorem loop_all1 {σ ρ : Type} (L : Nat → Int → Option (Flow σ ρ)) (n : Nat) (P : Nat → Prop) [DecidablePred P] (r : ρ) (e : σ)
    (h : ∀ k (i : Nat), i < n → L (k + 1) i = if P i then L k ((i + 1 : Nat) : Int) else some (.ret r)) (h2 : ∀ k, L (k + 1) (n : Int) = some (.out e)) (hn : n < 2 ^ 59) :
    L FUEL 0 = some (if (∀ i, i < n → P i) then .out e else .ret r) := by
  rw [loop_all L n (fun i => decide (P i)) r e (fun k i hi hp => by rw [h k i hi, if_pos (of_decide_eq_true hp)]) (fun k i hi hp => by rw [h k i hi, if_neg (of_decide_eq_false hp)]) h2 hn]
  by_cases hA : ∀ i, i < n → P i
  · rw [if_pos hA, if_pos (all_range_iff.2 fun i hi => decide_eq_true (hA i hi))]
  · rw [if_neg hA, if_neg (fun h => hA fun i hi => of_decide_eq_true (all_range_iff.1 h i hi))]
theorem ifl {α : Type} {c : Prop} [Decidable c] {A B r : α} (h1 : c → r = A) (h2 : ¬c → r = B) : r = (if c then A else B) := (ifr (fun h => (h1 h).symm) (fun h => (h2 h).symm)).symm
theorem if_dec (c : Prop) [Decidable c] : (if c then some true else some false : Option Bool) = some (decide c) := by by_cases h : c <;> simp [h]
/-- The same, with what follows the loop. -/
theorem loop_allg {σ ρ : Type} (L : Nat → Int → Option (Flow σ ρ)) (n : Nat) (P : Nat → Prop) [DecidablePred P] (r : ρ) (e : σ) (K : σ → Option ρ)
    (h1 : ∀ k (i : Nat), i < n → P i → L (k + 1) i = L k ((i + 1 : Nat) : Int)) (h0 : ∀ k (i : Nat), i < n → ¬P i → L (k + 1) i = some (.ret r)) (h2 : ∀ k, L (k + 1) (n : Int) = some (.out e)) (hn : n < 2 ^ 59) :
    ((L FUEL 0).bind fun f => f.go K) = if (∀ i, i < n → P i) then K e else some r := by
  rw [loop_all1 L n P r e (fun k i hi => by
    by_cases hp : P i
    · rw [if_pos hp]; exact h1 k i hi hp
    · rw [if_neg hp]; exact h0 k i hi hp) h2 hn, Option.bind_some, flow_if]
theorem find_range {α : Type} [Inhabited α] (l : List α) (p : α → Bool) : ((List.range l.length).find? fun i : Nat => p (rd l (i : Int))).map (fun i : Nat => rd l (i : Int)) = l.find? p := by
  induction l with
  | nil => rfl
  | cons x l ih =>
    rw [List.length_cons, List.range_succ_eq_map, List.find?_cons, List.find?_cons, List.find?_map]
    have e0 : rd (x :: l) ((0 : Nat) : Int) = x := by simp [rd]
    rw [e0]
    cases p x with
    | true => exact congrArg some e0
    | false =>
      simp only [Option.map_map]
      rw [← ih]
      have e : ∀ i : Nat, rd (x :: l) ((i.succ : Nat) : Int) = rd l (i : Int) := fun i => by simp [rd]
      simp only [Function.comp_def, e]
/-- A loop that stops at the first place of a list that is looked for: one obligation. -/
theorem loop_find1 {α σ ρ : Type} [Inhabited α] (L : Nat → Int → Option (Flow σ ρ)) (l : List α) (p : α → Bool) (r : α → ρ) (e : σ)
    (h : ∀ k (i : Nat), i < l.length → L (k + 1) i = if p (rd l (i : Int)) = true then some (.ret (r (rd l (i : Int)))) else L k ((i + 1 : Nat) : Int)) (h2 : ∀ k, L (k + 1) (l.length : Int) = some (.out e)) (hn : l.length < 2 ^ 59) :
    L FUEL 0 = some (match l.find? p with | some x => .ret (r x) | none => .out e) := by
  rw [loop_find L l.length (fun i => p (rd l (i : Int))) (fun i => r (rd l (i : Int))) e (fun k i hi hp => by rw [h k i hi, if_neg (by simp [hp])]) (fun k i hi hp => by rw [h k i hi, if_pos hp]) h2 hn, ← find_range l p]
  cases (List.range l.length).find? fun i : Nat => p (rd l (i : Int)) <;> rfl
theorem flow_find {α σ ρ : Type} (o : Option α) (r : α → ρ) (e : σ) (K : σ → Option ρ) : ((match o with | some x => Flow.ret (r x) | none => Flow.out e : Flow σ ρ).go K) = match o with | some x => some (r x) | none => K e := by cases o <;> rfl
theorem flow_ifL {σ ρ τ : Type} (c : Prop) [Decidable c] (e : σ) (r : ρ) (k : σ → Option (Flow τ ρ)) : ((if c then Flow.out e else Flow.ret r : Flow σ ρ).goL k) = if c then k e else some (.ret r) := by split <;> rfl
/-- Alike, one by one. -/
theorem eq_of_rd {α : Type} [Inhabited α] {a b : List α} (h : a.length = b.length) (h2 : ∀ i, i < a.length → rd a (i : Int) = rd b (i : Int)) : a = b := by
  apply List.ext_getElem h
  intro i h1 h2'
  have := h2 i h1
  rwa [rd_get a h1, rd_get b h2'] at this
/-- A loop over a list that gathers, with an end of its own. -/
theorem loop_gatherE {α β : Type} [Inhabited α] (L : Nat → List β → Int → Option (List β × Int)) (l : List α) (g : α → List β) (e : Int)
    (hs : ∀ k (i : Nat) s, i < l.length → s = (l.take i).flatMap g → L (k + 1) s i = L k (s ++ g (rd l (i : Int))) ((i + 1 : Nat) : Int))
    (he : ∀ k s, L (k + 1) s (l.length : Int) = some (s, e)) (hn : l.length < 2 ^ 59) :
    L FUEL [] 0 = some (l.flatMap g, e) := by
  obtain ⟨r, h1, h2⟩ := loop_inv (fun k (p : List β × Nat) => L k p.1 (p.2 : Int)) (fun p => p.2 ≤ l.length ∧ p.1 = (l.take p.2).flatMap g) (fun p => l.length - p.2) (fun r => r = (l.flatMap g, e))
    (fun k p hp => by
      obtain ⟨s, i⟩ := p
      obtain ⟨hi, hs'⟩ := hp
      by_cases h : i < l.length
      · refine .inl ⟨(s ++ g (rd l (i : Int)), i + 1), hs k i s h hs', ⟨h, ?_⟩, by simp only; omega⟩
        simp only at hs' ⊢
        rw [take_succ_rd l h, List.flatMap_append, ← hs']
        simp
      · have e : i = l.length := by simp only at hi; omega
        subst e
        refine .inr ⟨_, he k s, ?_⟩
        simp only at hs' ⊢
        rw [hs', List.take_length]) (s0 := ([], 0)) ⟨Nat.zero_le _, by simp⟩ (by simp only; omega)
  rw [show ((0 : Nat) : Int) = 0 from rfl] at h1
  rw [h1, h2]
/-- Numbers that rise are each there once. -/
theorem rise_lt {α : Type} [Inhabited α] {l : List α} (f : α → Int) (h : ∀ i : Nat, i < l.length → 0 < i → f (rd l ((i : Int) - 1)) < f (rd l (i : Int))) : ∀ d i : Nat, i + d + 1 < l.length → f (rd l (i : Int)) < f (rd l ((i + d + 1 : Nat) : Int)) := by
  intro d
  induction d with
  | zero =>
    intro i hi
    have h2 := h (i + 1) hi (by omega)
    rwa [show ((i + 1 : Nat) : Int) - 1 = (i : Int) by omega] at h2
  | succ d ih =>
    intro i hi
    have h1 := ih i (by omega)
    have h2 := h (i + d + 2) hi (by omega)
    rw [show ((i + d + 2 : Nat) : Int) - 1 = ((i + d + 1 : Nat) : Int) by omega] at h2
    exact Int.lt_trans h1 h2
theorem rd_of_mem {α : Type} [Inhabited α] {l : List α} {x : α} (h : x ∈ l) : ∃ i, i < l.length ∧ x = rd l (i : Int) := by
  obtain ⟨i, hi, e⟩ := List.mem_iff_getElem.1 h
  exact ⟨i, hi, by rw [rd_get l hi, e]⟩
theorem rise_one {α : Type} [Inhabited α] {l : List α} (f : α → Int) (h : ∀ i : Nat, i < l.length → 0 < i → f (rd l ((i : Int) - 1)) < f (rd l (i : Int))) {x y : α} (hx : x ∈ l) (hy : y ∈ l) (e : f x = f y) : x = y := by
  obtain ⟨i, hi, rfl⟩ := rd_of_mem hx
  obtain ⟨j, hj, rfl⟩ := rd_of_mem hy
  by_cases h1 : i = j
  · subst h1; rfl
  · by_cases h2 : i < j
    · have := rise_lt f h (j - i - 1) i (by omega)
      rw [show i + (j - i - 1) + 1 = j by omega] at this
      omega
    · have := rise_lt f h (i - j - 1) j (by omega)
      rw [show j + (i - j - 1) + 1 = i by omega] at this
      omega
theorem fold_last {α : Type} (p : α → Bool) (g : α → Int) (v : Int) (l : List α) (h : ∀ y ∈ l, p y = true → g y = v) (t : Int × Bool) : l.foldl (fun t x => if p x = true then (g x, true) else t) t = if l.any p = true then (v, true) else t := by
  induction l generalizing t with
  | nil => simp
  | cons x l ih =>
    rw [List.foldl_cons, ih (fun y hy => h y (List.mem_cons_of_mem _ hy)), List.any_cons]
    cases hx : p x with
    | true =>
      rw [h x (List.mem_cons_self ..) hx]
      simp
    | false => simp
theorem foldl_or {α : Type} (p : α → Bool) (l : List α) (b : Bool) : l.foldl (fun t x => t || p x) b = (b || l.any p) := by
  induction l generalizing b with
  | nil => simp
  | cons x l ih => rw [List.foldl_cons, ih, List.any_cons, Bool.or_assoc]
/-- The place of the first one that is looked for. -/
theorem index_gen {α : Type} [Inhabited α] (L : Nat → Int → Option (Flow Int Int)) (l : List α) (p : α → Bool)
    (h : ∀ k (i : Nat), i < l.length → L (k + 1) i = if p (rd l (i : Int)) = true then some (.ret (i : Int)) else L k ((i + 1 : Nat) : Int)) (h2 : ∀ k, L (k + 1) (l.length : Int) = some (.out (l.length : Int))) (hn : l.length < 2 ^ 59) :
    ∃ r, ((L FUEL 0).bind fun f => f.go fun _ => some (-1)) = some r ∧ (0 ≤ r ↔ l.any p = true) := by
  have hf := loop_find L l.length (fun i => p (rd l (i : Int))) (fun i => (i : Int)) (l.length : Int) (fun k i hi hp => by rw [h k i hi, if_neg (by simp [hp])]) (fun k i hi hp => by rw [h k i hi, if_pos hp]) h2 hn
  rw [hf]
  cases e : (List.range l.length).find? (fun i : Nat => p (rd l (i : Int))) with
  | none =>
    refine ⟨-1, rfl, ⟨fun h => absurd h (by omega), fun h => ?_⟩⟩
    obtain ⟨x, hx, hp⟩ := List.any_eq_true.1 h
    obtain ⟨i, hi, rfl⟩ := rd_of_mem hx
    have := List.find?_eq_none.1 e i (List.mem_range.2 hi)
    rw [hp] at this
    exact absurd rfl this
  | some i =>
    have h1 := List.find?_some e
    have h3 := List.mem_range.1 (List.mem_of_find?_eq_some e)
    exact ⟨(i : Int), rfl, ⟨fun _ => List.any_eq_true.2 ⟨_, rd_mem h3, h1⟩, fun _ => by omega⟩⟩
end Go.Ax

/- What positions and open orders want: the program's answers and the reference's are the same ones. -/
set_option linter.unusedVariables false
set_option linter.unusedSimpArgs false
set_option maxRecDepth 100000
namespace Go.Ax
open Go
def inB (n lo hi : Int) : Bool := decide (n ≥ lo) && decide (n ≤ hi)
theorem plan_in_eq (n lo hi : Int) : plan_in.f n lo hi = some (inB n lo hi) := by
  unfold plan_in.f inB
  by_cases h : n ≥ lo <;> simp [h]
theorem within_eq (n lo hi : Int) : novationref4_within.f n lo hi = some (inB n lo hi) := by
  unfold novationref4_within.f inB
  by_cases h : n ≥ lo <;> simp [h]
def instOk (x : api_Inst) : Bool := inB x.Bucket 0 3 && (inB x.Price 1 1000000000000 && (inB x.Rate 0 1000000000 && inB x.Slip 0 1000000000))
def planRest (c : api_Config) : Bool := decide (c.Skin ≥ 0) && (inB c.Times 0 4 && (inB c.Port 0 1000000 && (inB c.Bid 0 1000000 && (inB c.LotSize 1 4611686018427387904 && decide (c.HedgeMin ≥ 0)))))
def planOk (c : api_Config) : Bool := inB c.Insts.length 1 6 && ((List.range c.Insts.length).all (fun i => instOk (rd c.Insts (i : Int))) && planRest c)
theorem plan_loop (c : api_Config) (hn : c.Insts.length < 2 ^ 59) : plan_Right.l0 c FUEL 0 = some (if (List.range c.Insts.length).all (fun i => instOk (rd c.Insts (i : Int))) = true then .out (c.Insts.length : Int) else .ret false) := by
  refine loop_all (fun k i => plan_Right.l0 c k i) _ _ false _ (fun k i hi hp => ?_) (fun k i hi hp => ?_) (fun k => ?_) hn
  · have e1 := wsucc (i := i) (by omega)
    simp only [plan_Right.l0, plan_in_eq, Option.bind_some, e1]
    simp only [instOk, Bool.and_eq_true] at hp
    rw [if_pos (by omega), if_pos (by omega), if_neg (by simp [hp]), if_neg (by simp [hp]), if_neg (by simp [hp]), if_neg (by simp [hp])]
  · simp only [plan_Right.l0, plan_in_eq, Option.bind_some]
    rw [if_pos (by omega), if_pos (by omega)]
    unfold instOk at hp
    repeat' split
    all_goals first | rfl | simp_all
  · simp only [plan_Right.l0]; rw [if_neg (by omega)]
theorem plan_Right_eq (c : api_Config) (hn : c.Insts.length < 2 ^ 59) : plan_Right.f c = some (planOk c) := by
  unfold plan_Right.f
  simp only [plan_in_eq, Option.bind_some, plan_loop c hn, flow_if]
  unfold planOk planRest
  generalize (List.range c.Insts.length).all (fun i => instOk (rd c.Insts (i : Int))) = A
  cases A <;> cases inB c.Insts.length 1 6 <;> cases inB c.Times 0 4 <;> cases inB c.Port 0 1000000 <;> cases inB c.Bid 0 1000000 <;> cases inB c.LotSize 1 4611686018427387904 <;> by_cases h2 : 0 ≤ c.Skin <;> simp [h2]
theorem RightPlan_eq (c : api_Config) (hn : c.Insts.length < 2 ^ 59) : novationref4_RightPlan.f c = some (planOk c) := by
  have hl : novationref4_RightPlan.l0 c FUEL 0 = some (if (List.range c.Insts.length).all (fun i => instOk (rd c.Insts (i : Int))) = true then .out (c.Insts.length : Int) else .ret false) := by
    refine loop_all (fun k i => novationref4_RightPlan.l0 c k i) _ _ false _ (fun k i hi hp => ?_) (fun k i hi hp => ?_) (fun k => ?_) hn
    · have e1 := wsucc (i := i) (by omega)
      simp only [novationref4_RightPlan.l0, within_eq, Option.bind_some, e1]
      simp only [instOk, Bool.and_eq_true] at hp
      rw [if_pos (by omega), if_pos (by omega), if_neg (by simp [hp]), if_neg (by simp [hp]), if_neg (by simp [hp]), if_neg (by simp [hp])]
    · simp only [novationref4_RightPlan.l0, within_eq, Option.bind_some]
      rw [if_pos (by omega), if_pos (by omega)]
      unfold instOk at hp
      repeat' split
      all_goals first | rfl | simp_all
    · simp only [novationref4_RightPlan.l0]; rw [if_neg (by omega)]
  unfold novationref4_RightPlan.f
  simp only [within_eq, Option.bind_some, hl, flow_if]
  unfold planOk planRest
  by_cases a : (c.Insts.length : Int) < 1
  · rw [if_pos a]; simp [inB]; omega
  rw [if_neg a]
  by_cases b : (c.Insts.length : Int) > 6
  · rw [if_pos b]; simp [inB]; omega
  rw [if_neg b]
  have : inB c.Insts.length 1 6 = true := by simp [inB]; omega
  rw [this]
  simp only [Bool.true_and]
  generalize (List.range c.Insts.length).all (fun i => instOk (rd c.Insts (i : Int))) = A
  cases A <;> cases inB c.Times 0 4 <;> cases inB c.Port 0 1000000 <;> cases inB c.Bid 0 1000000 <;> cases inB c.LotSize 1 4611686018427387904 <;> by_cases h2 : 0 ≤ c.Skin <;> simp [h2]
/-- May the i-th leg be? -/
def legOk (c : api_Config) (l : List api_Leg) (i : Nat) : Prop := 0 ≤ (rd l (i : Int)).Inst ∧ (rd l (i : Int)).Inst < c.Insts.length ∧ (rd l (i : Int)).Q ≠ 0 ∧ (rd l (i : Int)).Q ≠ -9223372036854775808 ∧ (0 < i → (rd l ((i : Int) - 1)).Inst < (rd l (i : Int)).Inst)
instance (c : api_Config) (l : List api_Leg) (i : Nat) : Decidable (legOk c l i) := by unfold legOk; infer_instance
def legsOk (c : api_Config) (l : List api_Leg) : Bool := (List.range l.length).all (fun i => decide (legOk c l i)) && planOk c
theorem need_Legs_eq (c : api_Config) (l : List api_Leg) (hn : c.Insts.length < 2 ^ 59) (hl : l.length < 2 ^ 59) : need_Legs.f c l = some (legsOk c l) := by
  have h : need_Legs.l0 c l FUEL 0 = some (if (List.range l.length).all (fun i => decide (legOk c l i)) = true then .out (l.length : Int) else .ret false) := by
    refine loop_all (fun k i => need_Legs.l0 c l k i) _ _ false _ (fun k i hi hp => ?_) (fun k i hi hp => ?_) (fun k => ?_) hl
    · have e1 := wsucc (i := i) (by omega)
      have e2 := wpred (i := i) (by omega)
      simp only [need_Legs.l0, e1, e2, stock_Quantity.f, Option.bind_some]
      have hp := of_decide_eq_true hp
      obtain ⟨p1, p2, p3, p4, p5⟩ := hp
      rw [if_pos (by omega), if_pos (by omega), if_neg (by omega), if_neg (by omega), if_neg (by omega), if_neg (by simp; omega)]
      split
      · rw [if_pos (by omega), if_neg (by omega)]
      · rfl
    · have e2 := wpred (i := i) (by omega)
      simp only [need_Legs.l0, e2, stock_Quantity.f, Option.bind_some, bne_iff_ne]
      have hp : ¬ legOk c l i := of_decide_eq_false hp
      unfold legOk at hp
      rw [if_pos (by omega), if_pos (by omega)]
      repeat' first | rfl | (refine ifr (fun _ => ?_) (fun _ => ?_))
      all_goals first | rfl | (exfalso; omega)
    · simp only [need_Legs.l0]; rw [if_neg (by omega)]
  unfold need_Legs.f
  simp only [h, Option.bind_some, flow_if, plan_Right_eq c hn]
  unfold legsOk
  generalize (List.range l.length).all (fun i => decide (legOk c l i)) = A
  cases A <;> cases planOk c <;> rfl
theorem rLegs_eq (c : api_Config) (l : List api_Leg) (hn : c.Insts.length < 2 ^ 59) (hl : l.length < 2 ^ 59) : novationref10_Legs.f c l = some (legsOk c l) := by
  have h : novationref10_Legs.l0 c l FUEL 0 = some (if (List.range l.length).all (fun i => decide (legOk c l i)) = true then .out (l.length : Int) else .ret false) := by
    refine loop_all (fun k i => novationref10_Legs.l0 c l k i) _ _ false _ (fun k i hi hp => ?_) (fun k i hi hp => ?_) (fun k => ?_) hl
    · have e1 := wsucc (i := i) (by omega)
      have e2 := wpred (i := i) (by omega)
      simp only [novationref10_Legs.l0, e1, e2]
      have hp := of_decide_eq_true hp
      obtain ⟨p1, p2, p3, p4, p5⟩ := hp
      rw [if_pos (by omega), if_pos (by omega), if_neg (by omega), if_neg (by omega), if_neg (by omega), if_neg (by omega)]
      split
      · rw [if_pos (by omega), if_neg (by omega)]
      · rfl
    · have e2 := wpred (i := i) (by omega)
      simp only [novationref10_Legs.l0, e2]
      have hp : ¬ legOk c l i := of_decide_eq_false hp
      unfold legOk at hp
      rw [if_pos (by omega), if_pos (by omega)]
      repeat' first | rfl | (refine ifr (fun _ => ?_) (fun _ => ?_))
      all_goals first | rfl | (exfalso; omega)
    · simp only [novationref10_Legs.l0]; rw [if_neg (by omega)]
  unfold novationref10_Legs.f
  simp only [h, Option.bind_some, flow_if, RightPlan_eq c hn]
  unfold legsOk
  generalize (List.range l.length).all (fun i => decide (legOk c l i)) = A
  cases A <;> cases planOk c <;> simp
end Go.Ax

/- Lots, bids, deeds: the program's answers and the reference's are the same ones. -/
set_option linter.unusedVariables false
set_option linter.unusedSimpArgs false
set_option maxRecDepth 100000
set_option maxHeartbeats 4000000
namespace Go.Ax
open Go
def deedP (d : List api_Deed) (i : Nat) : Prop := 1 ≤ (rd d (i : Int)).Member ∧ (rd d (i : Int)).Member ≤ 12 ∧ 1 ≤ (rd d (i : Int)).Class ∧ (rd d (i : Int)).Class ≤ 4 ∧ (0 < i → (rd d ((i : Int) - 1)).Member < (rd d (i : Int)).Member)
instance (d : List api_Deed) : DecidablePred (deedP d) := fun i => by unfold deedP; infer_instance
def deedsOk (d : List api_Deed) : Bool := decide (∀ i, i < d.length → deedP d i)
theorem rank_Right_eq (d : List api_Deed) (hl : d.length < 2 ^ 59) : rank_Right.f d = some (deedsOk d) := by
  unfold rank_Right.f deedsOk
  rw [loop_allg (fun k i => rank_Right.l0 d k i) d.length (deedP d) false (d.length : Int) _ (fun k i hi hP => ?_) (fun k i hi hP => ?_) (fun k => ?_) hl]
  · exact if_dec _
  · simp only [rank_Right.l0, wsucc (i := i) (by omega), wpred (i := i) (by omega)]
    unfold deedP at hP
    repeat' (first | with_reducible rfl | (exfalso; omega) | refine ifr (fun _ => ?_) (fun _ => ?_))
  · simp only [rank_Right.l0, wsucc (i := i) (by omega), wpred (i := i) (by omega)]
    unfold deedP at hP
    repeat' (first | with_reducible rfl | (exfalso; omega) | refine ifr (fun _ => ?_) (fun _ => ?_))
  · simp only [rank_Right.l0]; rw [if_neg (by omega)]
theorem RightDeeds_eq (d : List api_Deed) (hl : d.length < 2 ^ 59) : novationref26_RightDeeds.f d = some (deedsOk d) := by
  unfold novationref26_RightDeeds.f deedsOk
  rw [loop_allg (fun k i => novationref26_RightDeeds.l0 d k i) d.length (deedP d) false (d.length : Int) _ (fun k i hi hP => ?_) (fun k i hi hP => ?_) (fun k => ?_) hl]
  · exact if_dec _
  · simp only [novationref26_RightDeeds.l0, wsucc (i := i) (by omega), wpred (i := i) (by omega)]
    unfold deedP at hP
    repeat' (first | with_reducible rfl | (exfalso; omega) | refine ifr (fun _ => ?_) (fun _ => ?_))
  · simp only [novationref26_RightDeeds.l0, wsucc (i := i) (by omega), wpred (i := i) (by omega)]
    unfold deedP at hP
    repeat' (first | with_reducible rfl | (exfalso; omega) | refine ifr (fun _ => ?_) (fun _ => ?_))
  · simp only [novationref26_RightDeeds.l0]; rw [if_neg (by omega)]
theorem deeds_one {d : List api_Deed} (h : deedsOk d = true) {x y : api_Deed} (hx : x ∈ d) (hy : y ∈ d) (e : x.Member = y.Member) : x = y :=
  rise_one (·.Member) (fun i hi h0 => ((of_decide_eq_true h) i hi).2.2.2.2 h0) hx hy e
def riseP (l : List Int) (i : Nat) : Prop := 1 ≤ rd l (i : Int) ∧ rd l (i : Int) ≤ 12 ∧ (0 < i → rd l ((i : Int) - 1) < rd l (i : Int))
instance (l : List Int) : DecidablePred (riseP l) := fun i => by unfold riseP; infer_instance
def riseOk (l : List Int) : Bool := decide (∀ i, i < l.length → riseP l i)
theorem rank_Rise_eq (l : List Int) (hl : l.length < 2 ^ 59) : rank_Rise.f l = some (riseOk l) := by
  unfold rank_Rise.f riseOk
  rw [loop_allg (fun k i => rank_Rise.l0 l k i) l.length (riseP l) false (l.length : Int) _ (fun k i hi hP => ?_) (fun k i hi hP => ?_) (fun k => ?_) hl]
  · exact if_dec _
  · simp only [rank_Rise.l0, wsucc (i := i) (by omega), wpred (i := i) (by omega)]
    unfold riseP at hP
    repeat' (first | with_reducible rfl | (exfalso; omega) | refine ifr (fun _ => ?_) (fun _ => ?_))
  · simp only [rank_Rise.l0, wsucc (i := i) (by omega), wpred (i := i) (by omega)]
    unfold riseP at hP
    repeat' (first | with_reducible rfl | (exfalso; omega) | refine ifr (fun _ => ?_) (fun _ => ?_))
  · simp only [rank_Rise.l0]; rw [if_neg (by omega)]
theorem Rising_eq (l : List Int) (hl : l.length < 2 ^ 59) : novationref26_Rising.f l = some (riseOk l) := by
  unfold novationref26_Rising.f riseOk
  rw [loop_allg (fun k i => novationref26_Rising.l0 l k i) l.length (riseP l) false (l.length : Int) _ (fun k i hi hP => ?_) (fun k i hi hP => ?_) (fun k => ?_) hl]
  · exact if_dec _
  · simp only [novationref26_Rising.l0, wsucc (i := i) (by omega), wpred (i := i) (by omega)]
    unfold riseP at hP
    repeat' (first | with_reducible rfl | (exfalso; omega) | refine ifr (fun _ => ?_) (fun _ => ?_))
  · simp only [novationref26_Rising.l0, wsucc (i := i) (by omega), wpred (i := i) (by omega)]
    unfold riseP at hP
    repeat' (first | with_reducible rfl | (exfalso; omega) | refine ifr (fun _ => ?_) (fun _ => ?_))
  · simp only [novationref26_Rising.l0]; rw [if_neg (by omega)]
/-- A lot by itself. -/
def lotB (x : api_Lot) : Prop := 1 ≤ x.Id ∧ x.Id ≤ 1099511627776 ∧ ¬ x.Legs.length = 0 ∧ x.Ref ≤ 0 ∧ ((x.State = 1 ∨ x.State = 3) ∧ x.Winner = 0 ∧ x.Price = 0 ∨ x.State = 2 ∧ 1 ≤ x.Winner ∧ x.Winner ≤ 12 ∧ -1152921504606846976 ≤ x.Price ∧ x.Price ≤ 1152921504606846976)
instance (x : api_Lot) : Decidable (lotB x) := by unfold lotB; infer_instance
def lotP (c : api_Config) (l : List api_Lot) (i : Nat) : Prop := lotB (rd l (i : Int)) ∧ legsOk c (rd l (i : Int)).Legs = true ∧ (0 < i → (rd l ((i : Int) - 1)).Id < (rd l (i : Int)).Id)
instance (c : api_Config) (l : List api_Lot) : DecidablePred (lotP c l) := fun i => by unfold lotP; infer_instance
/-- Few legs each. -/
def LotsL (l : List api_Lot) : Prop := l.length < 2 ^ 32 ∧ ∀ i, i < l.length → (rd l (i : Int)).Legs.length < 2 ^ 32
def lotsOk (c : api_Config) (l : List api_Lot) : Bool := planOk c && (decide (l.length ≤ 12) && decide (∀ i, i < l.length → lotP c l i))
theorem lot_Right_eq (c : api_Config) (l : List api_Lot) (hn : c.Insts.length < 2 ^ 59) (hl : LotsL l) : lot_Right.f c l = some (lotsOk c l) := by
  unfold lot_Right.f lotsOk
  rw [plan_Right_eq c hn, Option.bind_some]
  cases planOk c with
  | false => simp
  | true =>
    rw [if_neg (by simp)]
    by_cases h12 : l.length ≤ 12
    · rw [if_neg (by omega), decide_eq_true h12, loop_allg (fun k i => lot_Right.l0 c l k i) l.length (lotP c l) false (l.length : Int) _ (fun k i hi hP => ?_) (fun k i hi hP => ?_) (fun k => ?_) (by omega)]
      · exact if_dec _
      · obtain ⟨h1, h2, h3⟩ := hP
        simp only [lot_Right.l0, wsucc (i := i) (by omega), wpred (i := i) (by omega), need_Legs_eq c _ hn (show (rd l (i : Int)).Legs.length < 2 ^ 59 by have := hl.2 i hi; omega), Option.bind_some, h2, not_true_eq_false, if_false]
        unfold lotB at h1
        repeat' (first | with_reducible rfl | (exfalso; omega) | refine ifr (fun _ => ?_) (fun _ => ?_))
      · simp only [lot_Right.l0, wsucc (i := i) (by omega), wpred (i := i) (by omega), need_Legs_eq c _ hn (show (rd l (i : Int)).Legs.length < 2 ^ 59 by have := hl.2 i hi; omega), Option.bind_some]
        by_cases hL : legsOk c (rd l (i : Int)).Legs = true
        · have h1 : ¬(lotB (rd l (i : Int)) ∧ (0 < i → (rd l ((i : Int) - 1)).Id < (rd l (i : Int)).Id)) := fun h => hP ⟨h.1, hL, h.2⟩
          simp only [hL, not_true_eq_false, if_false]
          unfold lotB at h1
          repeat' (first | with_reducible rfl | (exfalso; omega) | refine ifr (fun _ => ?_) (fun _ => ?_))
        · simp only [hL, Bool.false_eq_true, not_false_eq_true, if_true]
          repeat' (first | with_reducible rfl | (exfalso; omega) | refine ifr (fun _ => ?_) (fun _ => ?_))
      · simp only [lot_Right.l0]; rw [if_neg (by omega)]
    · rw [if_pos (by omega), decide_eq_false h12, Bool.false_and, Bool.and_false]
theorem novationref20_RightLots_eq (c : api_Config) (l : List api_Lot) (hn : c.Insts.length < 2 ^ 59) (hl : LotsL l) : novationref20_RightLots.f c l = some (lotsOk c l) := by
  unfold novationref20_RightLots.f lotsOk
  rw [RightPlan_eq c hn, Option.bind_some]
  cases planOk c with
  | false => simp
  | true =>
    rw [if_neg (by simp)]
    by_cases h12 : l.length ≤ 12
    · rw [if_neg (by omega), decide_eq_true h12, loop_allg (fun k i => novationref20_RightLots.l0 c l k i) l.length (lotP c l) false (l.length : Int) _ (fun k i hi hP => ?_) (fun k i hi hP => ?_) (fun k => ?_) (by omega)]
      · exact if_dec _
      · obtain ⟨h1, h2, h3⟩ := hP
        simp only [novationref20_RightLots.l0, wsucc (i := i) (by omega), wpred (i := i) (by omega), rLegs_eq c _ hn (show (rd l (i : Int)).Legs.length < 2 ^ 59 by have := hl.2 i hi; omega), Option.bind_some, h2, not_true_eq_false, if_false]
        unfold lotB at h1
        repeat' (first | with_reducible rfl | (exfalso; omega) | refine ifr (fun _ => ?_) (fun _ => ?_))
      · simp only [novationref20_RightLots.l0, wsucc (i := i) (by omega), wpred (i := i) (by omega), rLegs_eq c _ hn (show (rd l (i : Int)).Legs.length < 2 ^ 59 by have := hl.2 i hi; omega), Option.bind_some]
        by_cases hL : legsOk c (rd l (i : Int)).Legs = true
        · have h1 : ¬(lotB (rd l (i : Int)) ∧ (0 < i → (rd l ((i : Int) - 1)).Id < (rd l (i : Int)).Id)) := fun h => hP ⟨h.1, hL, h.2⟩
          simp only [hL, not_true_eq_false, if_false]
          unfold lotB at h1
          repeat' (first | with_reducible rfl | (exfalso; omega) | refine ifr (fun _ => ?_) (fun _ => ?_))
        · simp only [hL, Bool.false_eq_true, not_false_eq_true, if_true]
          repeat' (first | with_reducible rfl | (exfalso; omega) | refine ifr (fun _ => ?_) (fun _ => ?_))
      · simp only [novationref20_RightLots.l0]; rw [if_neg (by omega)]
    · rw [if_pos (by omega), decide_eq_false h12, Bool.false_and, Bool.and_false]
def bidB (x : api_Bid) : Prop := 1 ≤ x.Seq ∧ x.Seq ≤ 1099511627776 ∧ 1 ≤ x.Lot ∧ x.Lot ≤ 1099511627776 ∧ 1 ≤ x.Member ∧ x.Member ≤ 12 ∧ -1152921504606846976 ≤ x.Price ∧ x.Price ≤ 1152921504606846976
instance (x : api_Bid) : Decidable (bidB x) := by unfold bidB; infer_instance
theorem someD {Q P : Prop} [Decidable Q] [Decidable P] (h : Q ↔ P) : some (decide Q) = some (decide P) := by rw [decide_eq_decide.2 h]
theorem someF {P : Prop} [Decidable P] (h : ¬P) : some false = some (decide P) := by rw [decide_eq_false h]
theorem bid_Bid_eq (x : api_Bid) : bid_Bid.f x = some (decide (bidB x)) := by
  unfold bid_Bid.f
  repeat' (first | refine ifr (fun _ => ?_) (fun _ => ?_))
  all_goals unfold bidB
  all_goals first | exact someD (by omega) | exact someF (by omega)
theorem RightBid_eq (x : api_Bid) : novationref20_RightBid.f x = some (decide (bidB x)) := by
  unfold novationref20_RightBid.f
  repeat' (first | refine ifr (fun _ => ?_) (fun _ => ?_))
  all_goals unfold bidB
  all_goals first | exact someD (by omega) | exact someF (by omega)
/-- No other bid of its member for its lot ahead. -/
def bidT (l : List api_Bid) (i : Nat) : Prop := ∀ j, j < i → ¬((rd l (j : Int)).Member = (rd l (i : Int)).Member ∧ (rd l (j : Int)).Lot = (rd l (i : Int)).Lot)
instance (l : List api_Bid) : DecidablePred (bidT l) := fun i => by unfold bidT; infer_instance
def bidP (l : List api_Bid) (i : Nat) : Prop := bidB (rd l (i : Int)) ∧ bidT l i ∧ (0 < i → (rd l ((i : Int) - 1)).Seq < (rd l (i : Int)).Seq)
instance (l : List api_Bid) : DecidablePred (bidP l) := fun i => by unfold bidP; infer_instance
def bidsOk (l : List api_Bid) : Bool := decide (∀ i, i < l.length → bidP l i) && decide (l.length ≤ 40)
theorem rd_take {α : Type} [Inhabited α] (l : List α) {i j : Nat} (h : j < i) : rd (l.take i) (j : Int) = rd l (j : Int) := by
  simp [rd, List.getElem?_take, h]
theorem any_rd {α : Type} [Inhabited α] (l : List α) (p : α → Bool) : l.any p = true ↔ ∃ j, j < l.length ∧ p (rd l (j : Int)) = true := by
  rw [List.any_eq_true]
  constructor
  · rintro ⟨x, hx, hp⟩
    obtain ⟨i, hi, rfl⟩ := rd_of_mem hx
    exact ⟨i, hi, hp⟩
  · rintro ⟨j, hj, hp⟩
    exact ⟨_, rd_mem hj, hp⟩
theorem bid_twice_eq (l : List api_Bid) (m x : Int) (hl : l.length < 2 ^ 59) : bid_twice.f l m x = some (l.any fun y => decide (y.Member = m ∧ y.Lot = x)) := by
  unfold bid_twice.f slices_ContainsFunc_api_Bid_bid_twice_1.f slices_IndexFunc_api_Bid_bid_twice_1.f
  have hx := index_gen (fun k i => slices_IndexFunc_api_Bid_bid_twice_1.l0 l m x k i) l (fun y => decide (y.Member = m ∧ y.Lot = x)) (fun k i hi => ?_) (fun k => ?_) hl
  · obtain ⟨r, h1, h2⟩ := hx
    rw [h1]
    simp only [Option.bind_some]
    by_cases h : 0 ≤ r
    · rw [decide_eq_true h, h2.1 h]
    · rw [decide_eq_false h, Bool.eq_false_iff.2 (fun hh => h (h2.2 hh))]
  · simp only [slices_IndexFunc_api_Bid_bid_twice_1.l0, wsucc (i := i) (by omega), bid_twice_1.f]
    rw [if_pos (by omega), if_pos (by omega)]
    by_cases q1 : (rd l (i : Int)).Member = m <;> by_cases q2 : (rd l (i : Int)).Lot = x <;> simp [q1, q2]
  · simp only [slices_IndexFunc_api_Bid_bid_twice_1.l0]; rw [if_neg (by omega)]
theorem twice_T (l : List api_Bid) {i : Nat} (hi : i < l.length) (hl : l.length < 2 ^ 59) : bid_twice.f (l.take ((i : Int)).toNat) (rd l (i : Int)).Member (rd l (i : Int)).Lot = some (decide (¬ bidT l i)) := by
  rw [Int.toNat_natCast, bid_twice_eq _ _ _ (by rw [List.length_take]; omega)]
  congr 1
  rw [Bool.eq_iff_iff, decide_eq_true_eq, any_rd]
  unfold bidT
  constructor
  · rintro ⟨j, hj, hp⟩ h
    rw [List.length_take] at hj
    rw [rd_take l (by omega)] at hp
    exact h j (by omega) (of_decide_eq_true hp)
  · intro h
    obtain ⟨j, hj⟩ := Classical.not_forall.1 h
    obtain ⟨h1, h2⟩ := Classical.not_imp.1 hj
    exact ⟨j, by rw [List.length_take]; omega, by rw [rd_take l h1]; exact decide_eq_true (Classical.not_not.1 h2)⟩
theorem bid_Right_eq (l : List api_Bid) (hl : l.length < 2 ^ 59) : bid_Right.f l = some (bidsOk l) := by
  unfold bid_Right.f bidsOk
  rw [loop_allg (fun k i => bid_Right.l0 l k i) l.length (bidP l) false (l.length : Int) _ (fun k i hi hP => ?_) (fun k i hi hP => ?_) (fun k => ?_) hl]
  · by_cases h : ∀ i, i < l.length → bidP l i
    · rw [if_pos h, decide_eq_true h, Bool.true_and]; exact someD (by omega)
    · rw [if_neg h, decide_eq_false h, Bool.false_and]
  · obtain ⟨h1, h2, h3⟩ := hP
    simp only [bid_Right.l0, wsucc (i := i) (by omega), wpred (i := i) (by omega), bid_Bid_eq, twice_T l hi hl, Option.bind_some, decide_eq_true_eq, h1, h2, not_true_eq_false, if_false]
    repeat' (first | with_reducible rfl | (exfalso; omega) | refine ifr (fun _ => ?_) (fun _ => ?_))
  · simp only [bid_Right.l0, wsucc (i := i) (by omega), wpred (i := i) (by omega), bid_Bid_eq, twice_T l hi hl, Option.bind_some, decide_eq_true_eq]
    by_cases h1 : bidB (rd l (i : Int))
    · by_cases h2 : bidT l i
      · have h3 : ¬(0 < i → (rd l ((i : Int) - 1)).Seq < (rd l (i : Int)).Seq) := fun h => hP ⟨h1, h2, h⟩
        simp only [h1, h2, not_true_eq_false, if_false]
        repeat' (first | with_reducible rfl | (exfalso; omega) | refine ifr (fun _ => ?_) (fun _ => ?_))
      · simp only [h1, h2, not_true_eq_false, not_false_eq_true, if_false, if_true]
        repeat' (first | with_reducible rfl | (exfalso; omega) | refine ifr (fun _ => ?_) (fun _ => ?_))
    · simp only [h1, not_false_eq_true, if_true]
      rw [if_pos (by omega), if_pos (by omega)]
  · simp only [bid_Right.l0]; rw [if_neg (by omega)]
theorem rBids_in (l : List api_Bid) {i : Nat} (hi : i < l.length) (hl : l.length < 2 ^ 59) :
    novationref20_RightBids.l1 l (i : Int) FUEL 0 = some (if bidT l i then .out (i : Int) else .ret false) ∧ novationref20_RightBids.l2 l (i : Int) FUEL 0 = some (if bidT l i then .out (i : Int) else .ret false) := by
  refine ⟨?_, ?_⟩
  · rw [loop_all1 (fun k j => novationref20_RightBids.l1 l (i : Int) k j) i (fun j => ¬((rd l (j : Int)).Member = (rd l (i : Int)).Member ∧ (rd l (j : Int)).Lot = (rd l (i : Int)).Lot)) false (i : Int) (fun k j hj => ?_) (fun k => by simp only [novationref20_RightBids.l1]; rw [if_neg (by omega)]) (by omega)]
    · rfl
    · simp only [novationref20_RightBids.l1, wsucc (i := j) (by omega)]
      repeat' (first | with_reducible rfl | (exfalso; omega) | refine ifr (fun _ => ?_) (fun _ => ?_) | refine ifl (fun _ => ?_) (fun _ => ?_))
  · rw [loop_all1 (fun k j => novationref20_RightBids.l2 l (i : Int) k j) i (fun j => ¬((rd l (j : Int)).Member = (rd l (i : Int)).Member ∧ (rd l (j : Int)).Lot = (rd l (i : Int)).Lot)) false (i : Int) (fun k j hj => ?_) (fun k => by simp only [novationref20_RightBids.l2]; rw [if_neg (by omega)]) (by omega)]
    · rfl
    · simp only [novationref20_RightBids.l2, wsucc (i := j) (by omega)]
      repeat' (first | with_reducible rfl | (exfalso; omega) | refine ifr (fun _ => ?_) (fun _ => ?_) | refine ifl (fun _ => ?_) (fun _ => ?_))
theorem RightBids_eq (l : List api_Bid) (hl : l.length < 2 ^ 59) : novationref20_RightBids.f l = some (bidsOk l) := by
  unfold novationref20_RightBids.f bidsOk
  by_cases h40 : l.length ≤ 40
  · rw [if_neg (by omega), decide_eq_true h40, Bool.and_true, loop_allg (fun k i => novationref20_RightBids.l0 l k i) l.length (bidP l) false (l.length : Int) _ (fun k i hi hP => ?_) (fun k i hi hP => ?_) (fun k => ?_) hl]
    · exact if_dec _
    · obtain ⟨h1, h2, h3⟩ := hP
      obtain ⟨g1, g2⟩ := rBids_in l hi hl
      simp only [novationref20_RightBids.l0, wsucc (i := i) (by omega), wpred (i := i) (by omega), RightBid_eq, g1, g2, Option.bind_some, Flow.goL_out, Flow.goL_ret, flow_ifL, decide_eq_true_eq, h1, h2, not_true_eq_false, if_false, if_true, Flow.goL_out, Flow.goL_ret]
      repeat' (first | with_reducible rfl | (exfalso; omega) | refine ifr (fun _ => ?_) (fun _ => ?_))
    · obtain ⟨g1, g2⟩ := rBids_in l hi hl
      simp only [novationref20_RightBids.l0, wsucc (i := i) (by omega), wpred (i := i) (by omega), RightBid_eq, g1, g2, Option.bind_some, Flow.goL_out, Flow.goL_ret, flow_ifL, decide_eq_true_eq]
      by_cases h1 : bidB (rd l (i : Int))
      · by_cases h2 : bidT l i
        · have h3 : ¬(0 < i → (rd l ((i : Int) - 1)).Seq < (rd l (i : Int)).Seq) := fun h => hP ⟨h1, h2, h⟩
          simp only [h1, h2, not_true_eq_false, if_false, if_true, Flow.goL_out, Flow.goL_ret]
          repeat' (first | with_reducible rfl | (exfalso; omega) | refine ifr (fun _ => ?_) (fun _ => ?_))
        · simp only [h1, h2, not_true_eq_false, if_false, if_true, Flow.goL_out, Flow.goL_ret]
          repeat' (first | with_reducible rfl | (exfalso; omega) | refine ifr (fun _ => ?_) (fun _ => ?_))
      · simp only [h1, not_false_eq_true, if_true]
        rw [if_pos (by omega), if_pos (by omega)]
    · simp only [novationref20_RightBids.l0]; rw [if_neg (by omega)]
  · rw [if_pos (by omega), decide_eq_false h40, Bool.and_false]
def noLot : api_Lot := ⟨0, [], 0, 0, 0, 0⟩
def lotOf (l : List api_Lot) (id : Int) : api_Lot × Bool := match l.find? (fun x => decide (x.Id = id)) with | some x => (x, true) | none => (noLot, false)
theorem FindLot_eq (l : List api_Lot) (id : Int) (hl : l.length < 2 ^ 59) : novationref20_FindLot.f l id = some (lotOf l id) := by
  have h := loop_find1 (fun k i => novationref20_FindLot.l0 l id k i) l (fun x => decide (x.Id = id)) (fun x => (x, true)) (l.length : Int) (fun k i hi => ?_) (fun k => ?_) hl
  · unfold novationref20_FindLot.f lotOf
    rw [h]
    cases l.find? (fun x => decide (x.Id = id)) <;> rfl
  · simp only [novationref20_FindLot.l0, wsucc (i := i) (by omega), decide_eq_true_eq]
    rw [if_pos (by omega), if_pos (by omega)]
  · simp only [novationref20_FindLot.l0]; rw [if_neg (by omega)]
theorem lot_Find_eq (l : List api_Lot) (id : Int) (hl : LotsL l) : lot_Find.f l id = some (lotOf l id) := by
  have h := loop_find1 (fun k i => lot_Find.l0 l id k i) l (fun x => decide (x.Id = id)) (fun x => (x, true)) (l.length : Int) (fun k i hi => ?_) (fun k => ?_) (by have := hl.1; omega)
  · unfold lot_Find.f lotOf
    rw [h]
    cases l.find? (fun x => decide (x.Id = id)) <;> rfl
  · have h2 := hl.2 i hi
    have h3 := hl.1
    simp only [lot_Find.l0, wsucc (i := i) (by omega), decide_eq_true_eq]
    rw [if_pos (by omega), if_pos (by omega)]
    by_cases q : (rd l (i : Int)).Id = id
    · rw [if_pos q, if_pos (by omega), if_pos q]
    · rw [if_neg q, if_neg q]
  · simp only [lot_Find.l0]; rw [if_neg (by omega)]
end Go.Ax

/- Positions: the program's answers and the reference's are the same ones. -/
set_option linter.unusedVariables false
set_option linter.unusedSimpArgs false
set_option maxRecDepth 100000
set_option maxHeartbeats 4000000
namespace Go.Ax
open Go
theorem all_congr_prefix {n : Nat} {P Q : Nat → Bool} (h : ∀ i, i < n → (∀ j, j < i → P j = true) → P i = Q i) : (List.range n).all P = (List.range n).all Q := by
  induction n with
  | zero => rfl
  | succ n ih =>
    have ih := ih fun i hi hp => h i (by omega) hp
    rw [List.range_succ, List.all_append, List.all_append, ih]
    cases e : (List.range n).all Q with
    | false => rfl
    | true =>
      rw [e] at ih
      simp only [List.all_cons, List.all_nil, Bool.and_true, Bool.true_and]
      exact h n (by omega) fun j hj => all_range_iff.1 ih j hj
theorem stock_key_eq (a b : Int) : stock_key.f a b = some (decide (0 ≤ a ∧ a ≤ 24 ∧ 0 ≤ b ∧ b < 6)) := by
  unfold stock_key.f
  by_cases h1 : a ≥ 0 <;> by_cases h2 : a ≤ 24 <;> by_cases h3 : b ≥ 0 <;> simp [h1, h2, h3] <;> omega
def posBase (x : api_Pos) : Prop := 0 ≤ x.Acc ∧ x.Acc ≤ 24 ∧ 0 ≤ x.Inst ∧ x.Inst < 6 ∧ x.Q ≠ 0 ∧ x.Q ≠ -9223372036854775808
instance (x : api_Pos) : Decidable (posBase x) := by unfold posBase; infer_instance
def ordI (x p : api_Pos) : Int := if ¬(x.Acc = p.Acc) then IntKind.i64.wrap (x.Acc - p.Acc) else IntKind.i64.wrap (x.Inst - p.Inst)
theorem stock_order_eq (x p : api_Pos) : stock_order.f x.Acc x.Inst p = some (ordI x p) := by
  unfold stock_order.f ordI
  split <;> rfl
def posP (l : List api_Pos) (i : Nat) : Bool := decide (posBase (rd l (i : Int)) ∧ (0 < i → 0 < ordI (rd l (i : Int)) (rd l ((i : Int) - 1))))
def posQ (l : List api_Pos) (i : Nat) : Bool := decide (posBase (rd l (i : Int)) ∧ (0 < i → (rd l ((i : Int) - 1)).Acc < (rd l (i : Int)).Acc ∨ (rd l ((i : Int) - 1)).Acc = (rd l (i : Int)).Acc ∧ (rd l ((i : Int) - 1)).Inst < (rd l (i : Int)).Inst))
def stockOk (l : List api_Pos) : Bool := (List.range l.length).all (posQ l)
theorem posP_posQ (l : List api_Pos) : (List.range l.length).all (posP l) = stockOk l := by
  refine all_congr_prefix fun i hi hp => ?_
  unfold posP posQ
  by_cases hb : posBase (rd l (i : Int))
  · by_cases h0 : 0 < i
    · have hprev := hp (i - 1) (by omega)
      unfold posP at hprev
      have hprev := (of_decide_eq_true hprev).1
      rw [show ((i - 1 : Nat) : Int) = (i : Int) - 1 by omega] at hprev
      generalize rd l ((i : Int) - 1) = p at *
      generalize rd l (i : Int) = x at *
      have hb' := hb
      unfold posBase at hb' hprev
      have e1 : IntKind.i64.wrap (x.Acc - p.Acc) = x.Acc - p.Acc := i64_wrap _ (by omega) (by omega)
      have e2 : IntKind.i64.wrap (x.Inst - p.Inst) = x.Inst - p.Inst := i64_wrap _ (by omega) (by omega)
      simp only [hb, true_and, h0, forall_const, ordI, e1, e2]
      rw [decide_eq_decide]
      split <;> omega
    · simp [hb, h0]
  · simp [hb]
theorem stock_Right_eq (l : List api_Pos) (hl : l.length < 2 ^ 59) : stock_Right.f l = some (stockOk l) := by
  have h := loop_all (fun k i => stock_Right.l0 l k i) l.length (posP l) false (l.length : Int) (fun k i hi hp => ?_) (fun k i hi hp => ?_) (fun k => ?_) hl
  · unfold stock_Right.f
    rw [h, posP_posQ]
    simp only [Option.bind_some, flow_if]
    cases stockOk l <;> rfl
  · have e1 := wsucc (i := i) (by omega)
    have e2 := wpred (i := i) (by omega)
    unfold posP at hp
    obtain ⟨hb, ho⟩ := of_decide_eq_true hp
    unfold posBase at hb
    simp only [stock_Right.l0, stock_key_eq, stock_order_eq, stock_Quantity.f, Option.bind_some, e1, e2, decide_eq_true_eq, bne_iff_ne]
    rw [if_pos (by omega), if_pos (by omega), if_neg (by omega), if_neg (by omega), if_neg (by simp; omega)]
    by_cases h0 : 0 < i
    · rw [if_pos (by omega), if_pos (by omega), if_neg (by have := ho h0; omega)]
    · rw [if_neg (by omega)]
  · have e1 := wsucc (i := i) (by omega)
    have e2 := wpred (i := i) (by omega)
    unfold posP at hp
    have hp := of_decide_eq_false hp
    unfold posBase at hp
    simp only [stock_Right.l0, stock_key_eq, stock_order_eq, stock_Quantity.f, Option.bind_some, e1, e2, decide_eq_true_eq, bne_iff_ne]
    rw [if_pos (by omega), if_pos (by omega)]
    repeat' split
    all_goals first | rfl | (exfalso; simp only [ne_eq, Classical.not_not, gt_iff_lt] at *; omega)
  · simp only [stock_Right.l0]; rw [if_neg (by omega)]
theorem rStock_eq (l : List api_Pos) (hl : l.length < 2 ^ 59) : novationref10_Stock.f l = some (stockOk l) := by
  have h := loop_all (fun k i => novationref10_Stock.l0 l k i) l.length (posQ l) false (l.length : Int) (fun k i hi hp => ?_) (fun k i hi hp => ?_) (fun k => ?_) hl
  · unfold novationref10_Stock.f
    rw [h]
    simp only [Option.bind_some, flow_if]
    unfold stockOk
    cases (List.range l.length).all (posQ l) <;> rfl
  · have e1 := wsucc (i := i) (by omega)
    have e2 := wpred (i := i) (by omega)
    unfold posQ at hp
    obtain ⟨hb, ho⟩ := of_decide_eq_true hp
    unfold posBase at hb
    rw [novationref10_Stock.l0, e1, e2]
    rw [if_pos (by omega), if_pos (by omega)]
    repeat' split
    all_goals first | rfl | (exfalso; omega)
  · have e1 := wsucc (i := i) (by omega)
    have e2 := wpred (i := i) (by omega)
    unfold posQ at hp
    have hp := of_decide_eq_false hp
    unfold posBase at hp
    rw [novationref10_Stock.l0, e1, e2]
    rw [if_pos (by omega), if_pos (by omega)]
    repeat' split
    all_goals first | rfl | (exfalso; omega)
  · simp only [novationref10_Stock.l0]; rw [if_neg (by omega)]
def priceOk (p : Int) : Bool := decide (1 ≤ p ∧ p ≤ 1000000000000)
theorem mark_Price_eq (p : Int) : mark_Price.f p = some (priceOk p) := by
  unfold mark_Price.f priceOk
  by_cases h : p ≥ 1 <;> simp [h]
theorem rprice_eq (p : Int) : novationref15_price.f p = some (priceOk p) := by
  unfold novationref15_price.f priceOk
  by_cases h : p ≥ 1 <;> simp [h]

/-- The sum of an instrument's positions. -/
def stockSum (l : List api_Pos) (inst : Int) : Int := ((l.filter (fun x => decide (x.Inst = inst))).map (·.Q)).sum
def PosI (l : List api_Pos) : Prop := ∀ i, i < l.length → I64 (rd l (i : Int)).Q
theorem sum_bound (l : List Int) (h : ∀ x ∈ l, I64 x) : (l.sum).natAbs ≤ l.length * 9223372036854775808 := by
  induction l with
  | nil => simp
  | cons x l ih =>
    have h1 := ih fun y hy => h y (List.mem_cons_of_mem _ hy)
    have h2 := h x (List.mem_cons_self ..)
    unfold I64 at h2
    rw [List.sum_cons, List.length_cons, Nat.add_mul]
    omega
theorem sum_wid {l : List Int} (h : ∀ x ∈ l, I64 x) (hl : l.length < 2 ^ 59) : Wid l.sum ∧ BigOk l.sum := by
  have h1 := sum_bound l h
  have h2 : l.length * 9223372036854775808 ≤ 2 ^ 59 * 9223372036854775808 := Nat.mul_le_mul_right _ (by omega)
  refine ⟨?_, bigOk_of (Nat.lt_of_le_of_lt (Nat.le_trans h1 h2) (by decide))⟩
  unfold Wid
  omega
theorem mem_rd {α : Type} [Inhabited α] {l : List α} {x : α} (h : x ∈ l) : ∃ i, i < l.length ∧ x = rd l (i : Int) := by
  obtain ⟨i, hi, e⟩ := List.mem_iff_getElem.1 h
  exact ⟨i, hi, by rw [rd_get l hi, e]⟩
theorem stock_vals {l : List api_Pos} (hI : PosI l) (inst : Int) : ∀ x ∈ (l.filter (fun x => decide (x.Inst = inst))).map (·.Q), I64 x := by
  intro x hx
  obtain ⟨y, hy, rfl⟩ := List.mem_map.1 hx
  obtain ⟨i, hi, rfl⟩ := mem_rd (List.mem_filter.1 hy).1
  exact hI i hi

theorem stock_Sum_eq {l : List api_Pos} (inst : Int) (hI : PosI l) (hl : l.length < 2 ^ 32) : stock_Sum.f l inst = some (if stockOk l = true then stockSum l inst else 0) := by
  unfold stock_Sum.f
  rw [stock_Right_eq l (by omega), Option.bind_some]
  by_cases hs : stockOk l = true
  · rw [if_neg (by simp [hs]), if_pos hs]
    have h := loop_gather (fun k s i => stock_Sum.l0 l inst k s i) l (fun x => if x.Inst = inst then [x.Q] else []) (fun k i s hi e => ?_) (fun k s => ?_) (by omega)
    · rw [h, Option.bind_some]
      simp only
      rw [flatMap_if (fun x : api_Pos => x.Inst = inst) (·.Q)]
      have hv := stock_vals hI inst
      have hlen : ((l.filter (fun x => decide (x.Inst = inst))).map (·.Q)).length ≤ l.length := by rw [List.length_map]; exact List.length_filter_le _ _
      have hw := sum_wid hv (by omega)
      unfold wide_Sum.f
      have hall : ((l.filter (fun x => decide (x.Inst = inst))).map (·.Q)).all wfit = true := by
        rw [List.all_eq_true]
        intro x hx
        have := hv x hx
        unfold I64 at this
        exact decide_eq_true ⟨by omega, by omega⟩
      rw [if_pos ⟨hall, by omega⟩, Option.bind_some]
      unfold stockSum wfitV
      rw [if_pos hw.1]
    · have e1 := wsucc (i := i) (by omega)
      have hQ := hI i hi
      have hlen : s.length ≤ i := by rw [e]; refine Nat.le_trans (flatMap_if_len (fun x : api_Pos => x.Inst = inst) (·.Q) _) (by rw [List.length_take]; omega)
      simp only [stock_Sum.l0, e1]
      rw [if_pos (by omega), if_pos (by omega)]
      by_cases h : (rd l (i : Int)).Inst = inst
      · rw [if_pos h, if_pos h]
        unfold wide_Of.f
        rw [if_pos hQ, Option.bind_some, if_pos (by omega)]
      · rw [if_neg h, if_neg h, List.append_nil]
    · simp only [stock_Sum.l0]; rw [if_neg (by omega)]
  · rw [if_pos hs, if_neg hs]
theorem foldl_if {α : Type} (p : α → Prop) [DecidablePred p] (f : α → Int) (l : List α) (s : Int) : l.foldl (fun t x => if p x then t + f x else t) s = s + ((l.filter (fun x => decide (p x))).map f).sum := by
  induction l generalizing s with
  | nil => simp
  | cons x l ih =>
    rw [List.foldl_cons, ih]
    by_cases h : p x
    · simp [h]; omega
    · simp [h]
theorem rSumInst_eq {l : List api_Pos} (inst : Int) (hI : PosI l) (hl : l.length < 2 ^ 32) : novationref10_SumInst.f l inst = some (if stockOk l = true then stockSum l inst else 0) := by
  unfold novationref10_SumInst.f
  rw [rStock_eq l (by omega), Option.bind_some]
  by_cases hs : stockOk l = true
  · rw [if_neg (by simp [hs]), if_pos hs]
    have h := loop_sum (fun k s i => novationref10_SumInst.l0 l inst k s i) l (fun t x => if x.Inst = inst then t + x.Q else t) (fun i s => s.natAbs ≤ i * 9223372036854775808) 0 (by simp) (fun k i s hi hb e => ?_) (fun k s => ?_) (by omega)
    · rw [h, Option.bind_some]
      simp only
      rw [foldl_if (fun x : api_Pos => x.Inst = inst) (·.Q), Int.zero_add]
      rfl
    · have e1 := wsucc (i := i) (by omega)
      have hQ := hI i hi
      have hQ' := hQ
      unfold I64 at hQ'
      have hb1 : i * 9223372036854775808 ≤ 2 ^ 32 * 9223372036854775808 := Nat.mul_le_mul_right _ (by omega)
      have hB : BigOk s := bigOk_of (Nat.lt_of_le_of_lt (Nat.le_trans hb hb1) (by decide))
      have hB2 : BigOk (rd l (i : Int)).Q := bigOk_of (Nat.lt_of_le_of_lt (m := 2 ^ 64) (by omega) (by decide))
      simp only [novationref10_SumInst.l0, e1]
      by_cases h : (rd l (i : Int)).Inst = inst
      · refine ⟨?_, ?_⟩
        · rw [if_pos (by omega), if_pos (by omega), if_pos h, if_pos h]
          unfold novationref1_Whole.f novationref1_Plus.f
          rw [if_pos hQ, Option.bind_some, if_pos ⟨hB, hB2⟩, Option.bind_some]
        · rw [if_pos h, Nat.add_mul]
          omega
      · refine ⟨?_, ?_⟩
        · rw [if_pos (by omega), if_pos (by omega), if_neg h, if_neg h]
        · rw [if_neg h, Nat.add_mul]
          exact Nat.le_trans hb (Nat.le_add_right _ _)
    · show novationref10_SumInst.l0 l inst (k + 1) s (l.length : Int) = _
      rw [novationref10_SumInst.l0, if_neg (Int.lt_irrefl _)]
  · rw [if_pos hs, if_neg hs]
theorem stockSum_big {l : List api_Pos} (inst : Int) (hI : PosI l) (hl : l.length < 2 ^ 32) : BigOk (stockSum l inst) := by
  refine (sum_wid (stock_vals hI inst) ?_).2
  have : ((l.filter (fun x => decide (x.Inst = inst))).map (·.Q)).length ≤ l.length := by rw [List.length_map]; exact List.length_filter_le _ _
  omega
theorem cmpI_zero (z : Int) : cmpI z 0 = 0 ↔ z = 0 := by unfold cmpI; repeat' split; all_goals omega
/-- All of the instruments come to 0, and the positions may be. -/
def flatOk (l : List api_Pos) : Bool := stockOk l && decide (∀ i : Nat, i < 6 → stockSum l (i : Int) = 0)
theorem flat_if {b : Bool} {z : Int} {A B : Option (Flow Int Bool)} : (if ¬(cmpI (if b = true then z else 0) 0 = 0) then A else B) = if b = true → z = 0 then B else A := by
  cases b <;> simp [cmpI_zero]
theorem stock_Flat_eq {l : List api_Pos} (hI : PosI l) (hl : l.length < 2 ^ 32) : stock_Flat.f l = some (flatOk l) := by
  unfold stock_Flat.f
  rw [loop_allg (fun k i => stock_Flat.l0 l k i) 6 (fun i => stockOk l = true → stockSum l (i : Int) = 0) false 6 _ (fun k i hi hP => ?_) (fun k i hi hP => ?_) (fun k => ?_) (by omega)]
  · rw [stock_Right_eq l (by omega)]
    unfold flatOk
    cases hs : stockOk l
    · simp
    · simp only [true_implies, Bool.true_and, Option.bind_some]; exact if_dec _
  · have e1 := wsucc (i := i) (by omega)
    simp only [stock_Flat.l0, e1, stock_Sum_eq (i : Int) hI hl, Option.bind_some, wide_Sign.f, flat_if]
    rw [if_pos (by omega), if_pos hP]
  · have e1 := wsucc (i := i) (by omega)
    simp only [stock_Flat.l0, e1, stock_Sum_eq (i : Int) hI hl, Option.bind_some, wide_Sign.f, flat_if]
    rw [if_pos (by omega), if_neg hP]
  · simp only [stock_Flat.l0]; rw [if_neg (by omega)]; rfl
theorem rFlat_eq {l : List api_Pos} (hI : PosI l) (hl : l.length < 2 ^ 32) : novationref10_Flat.f l = some (flatOk l) := by
  have hB : ∀ i : Nat, BigOk (if stockOk l = true then stockSum l (i : Int) else 0) := fun i => by
    split
    · exact stockSum_big _ hI hl
    · exact bigOk_of (by decide)
  unfold novationref10_Flat.f
  rw [loop_allg (fun k i => novationref10_Flat.l0 l k i) 6 (fun i => stockOk l = true → stockSum l (i : Int) = 0) false 6 _ (fun k i hi hP => ?_) (fun k i hi hP => ?_) (fun k => ?_) (by omega)]
  · rw [rStock_eq l (by omega)]
    unfold flatOk
    cases hs : stockOk l
    · simp
    · simp only [true_implies, Bool.true_and, Option.bind_some]; exact if_dec _
  · have e1 := wsucc (i := i) (by omega)
    simp only [novationref10_Flat.l0, e1, rSumInst_eq (i : Int) hI hl, Option.bind_some, novationref1_Sign.f, hB i, if_true, flat_if]
    rw [if_pos (by omega), if_pos hP]
  · have e1 := wsucc (i := i) (by omega)
    simp only [novationref10_Flat.l0, e1, rSumInst_eq (i : Int) hI hl, Option.bind_some, novationref1_Sign.f, hB i, if_true, flat_if]
    rw [if_pos (by omega), if_neg hP]
  · simp only [novationref10_Flat.l0]; rw [if_neg (by omega)]; rfl
/-- An account's positions. -/
def legsOf (l : List api_Pos) (acc : Int) : List api_Leg := (l.filter (fun x => decide (x.Acc = acc))).map (fun x => ⟨x.Inst, x.Q⟩)
end Go.Ax

/- Rows: the program's answers and the reference's are the same ones. -/
set_option linter.unusedVariables false
set_option linter.unusedSimpArgs false
set_option maxRecDepth 100000
set_option maxHeartbeats 4000000
namespace Go.Ax
open Go
def keyOk (k n : Int) : Prop := (k = 1 ∨ k = 2 ∨ k = 3 ∨ k = 4) ∧ n = 0 ∨ k = 5 ∧ 1 ≤ n ∧ n ≤ 24 ∨ (k = 6 ∨ k = 7) ∧ 1 ≤ n ∧ n ≤ 12
instance (k n : Int) : Decidable (keyOk k n) := by unfold keyOk; infer_instance
theorem some_beq {a b : Int} {P : Prop} [Decidable P] (h : a = b ↔ P) : some (a == b) = some (decide P) := by
  by_cases e : a = b
  · have hp := h.1 e; subst e; simp [hp]
  · have hp : ¬P := fun hp => e (h.2 hp); simp [e, hp]
theorem some_dec {Q P : Prop} [Decidable Q] [Decidable P] (h : Q ↔ P) : some (decide Q) = some (decide P) := by rw [decide_eq_decide.2 h]
theorem some_false {P : Prop} [Decidable P] (h : ¬P) : some false = some (decide P) := by rw [decide_eq_false h]
theorem ledger_Key_eq (k n : Int) : ledger_Key.f k n = some (decide (keyOk k n)) := by
  unfold ledger_Key.f
  repeat' (first | refine ifr (fun _ => ?_) (fun _ => ?_))
  all_goals (try (exfalso; omega))
  all_goals unfold keyOk
  all_goals first | exact some_beq (by omega) | exact some_dec (by omega) | exact some_false (by omega)
theorem rKey_eq (k n : Int) : novationref10_Key.f k n = some (decide (keyOk k n)) := ledger_Key_eq k n
def ordR (x p : api_Row) : Int := if ¬(x.Kind = p.Kind) then IntKind.i64.wrap (x.Kind - p.Kind) else IntKind.i64.wrap (x.N - p.N)
theorem ledger_order_eq (x p : api_Row) : ledger_order.f x.Kind x.N p = some (ordR x p) := by
  unfold ledger_order.f ordR
  split <;> rfl
def ltR (p x : api_Row) : Prop := p.Kind < x.Kind ∨ p.Kind = x.Kind ∧ p.N < x.N
instance (p x : api_Row) : Decidable (ltR p x) := by unfold ltR; infer_instance
def rowP (l : List api_Row) (i : Nat) : Prop := keyOk (rd l (i : Int)).Kind (rd l (i : Int)).N ∧ ¬(rd l (i : Int)).Sum = 0 ∧ (0 < i → ltR (rd l ((i : Int) - 1)) (rd l (i : Int)))
instance (l : List api_Row) : DecidablePred (rowP l) := fun i => by unfold rowP; infer_instance
def rowQ (l : List api_Row) (i : Nat) : Prop := keyOk (rd l (i : Int)).Kind (rd l (i : Int)).N ∧ ¬(rd l (i : Int)).Sum = 0 ∧ (0 < i → ¬ ordR (rd l (i : Int)) (rd l ((i : Int) - 1)) ≤ 0)
instance (l : List api_Row) : DecidablePred (rowQ l) := fun i => by unfold rowQ; infer_instance
def rowsOk (l : List api_Row) : Bool := decide (∀ i, i < l.length → rowP l i)
theorem ordR_lt {x p : api_Row} (hx : keyOk x.Kind x.N) (hp : keyOk p.Kind p.N) : ¬ ordR x p ≤ 0 ↔ ltR p x := by
  unfold keyOk at hx hp
  have e1 : IntKind.i64.wrap (x.Kind - p.Kind) = x.Kind - p.Kind := i64_wrap _ (by omega) (by omega)
  have e2 : IntKind.i64.wrap (x.N - p.N) = x.N - p.N := i64_wrap _ (by omega) (by omega)
  unfold ordR ltR
  rw [e1, e2]
  split <;> omega
theorem rowQ_all (l : List api_Row) : (∀ i, i < l.length → rowQ l i) ↔ (∀ i, i < l.length → rowP l i) := by
  constructor
  · intro h i hi
    have h1 := h i hi
    refine ⟨h1.1, h1.2.1, fun h0 => ?_⟩
    have hp := (h (i - 1) (by omega)).1
    rw [show ((i - 1 : Nat) : Int) = (i : Int) - 1 by omega] at hp
    exact (ordR_lt h1.1 hp).1 (h1.2.2 h0)
  · intro h i hi
    have h1 := h i hi
    refine ⟨h1.1, h1.2.1, fun h0 => ?_⟩
    have hp := (h (i - 1) (by omega)).1
    rw [show ((i - 1 : Nat) : Int) = (i : Int) - 1 by omega] at hp
    exact (ordR_lt h1.1 hp).2 (h1.2.2 h0)
theorem ledger_Right_eq (l : List api_Row) (hl : l.length < 2 ^ 59) : ledger_Right.f l = some (rowsOk l) := by
  unfold ledger_Right.f rowsOk
  rw [loop_allg (fun k i => ledger_Right.l0 l k i) l.length (rowQ l) false (l.length : Int) _ (fun k i hi hP => ?_) (fun k i hi hP => ?_) (fun k => ?_) hl]
  · rw [if_dec, decide_eq_decide.2 (rowQ_all l)]
  · have e1 := wsucc (i := i) (by omega)
    have e2 := wpred (i := i) (by omega)
    simp only [ledger_Right.l0, e1, e2, ledger_Key_eq, ledger_order_eq, Option.bind_some, decide_eq_true_eq]
    obtain ⟨h1, h2, h3⟩ := hP
    rw [if_pos (by omega), if_pos (by omega), if_neg (fun h => h h1), if_neg h2]
    by_cases h0 : 0 < i
    · rw [if_pos (by omega), if_pos (by omega), if_neg (h3 h0)]
    · rw [if_neg (by omega)]
  · have e1 := wsucc (i := i) (by omega)
    have e2 := wpred (i := i) (by omega)
    simp only [ledger_Right.l0, e1, e2, ledger_Key_eq, ledger_order_eq, Option.bind_some, decide_eq_true_eq]
    rw [if_pos (by omega), if_pos (by omega)]
    by_cases h1 : keyOk (rd l (i : Int)).Kind (rd l (i : Int)).N
    · rw [if_neg (fun h => h h1)]
      by_cases h2 : (rd l (i : Int)).Sum = 0
      · rw [if_pos h2]
      · rw [if_neg h2]
        by_cases h0 : 0 < i
        · rw [if_pos (by omega), if_pos (by omega)]
          by_cases h3 : ordR (rd l (i : Int)) (rd l ((i : Int) - 1)) ≤ 0
          · rw [if_pos h3]
          · exact absurd ⟨h1, h2, fun _ => h3⟩ hP
        · exact absurd ⟨h1, h2, fun h => absurd h h0⟩ hP
    · rw [if_pos h1]
  · simp only [ledger_Right.l0]; rw [if_neg (by omega)]
theorem rRows_eq (l : List api_Row) (hl : l.length < 2 ^ 59) : novationref10_Rows.f l = some (rowsOk l) := by
  unfold novationref10_Rows.f rowsOk
  rw [loop_allg (fun k i => novationref10_Rows.l0 l k i) l.length (rowP l) false (l.length : Int) _ (fun k i hi hP => ?_) (fun k i hi hP => ?_) (fun k => ?_) hl]
  · rw [if_dec]
  · have e1 := wsucc (i := i) (by omega)
    have e2 := wpred (i := i) (by omega)
    simp only [novationref10_Rows.l0, e1, e2, rKey_eq, Option.bind_some, decide_eq_true_eq]
    obtain ⟨h1, h2, h3⟩ := hP
    unfold ltR at h3
    rw [if_pos (by omega), if_pos (by omega), if_neg (fun h => h h1), if_neg h2]
    repeat' (first | with_reducible rfl | (exfalso; omega) | refine ifr (fun _ => ?_) (fun _ => ?_))
  · have e1 := wsucc (i := i) (by omega)
    have e2 := wpred (i := i) (by omega)
    simp only [novationref10_Rows.l0, e1, e2, rKey_eq, Option.bind_some, decide_eq_true_eq]
    rw [if_pos (by omega), if_pos (by omega)]
    by_cases h1 : keyOk (rd l (i : Int)).Kind (rd l (i : Int)).N
    · rw [if_neg (fun h => h h1)]
      by_cases h2 : (rd l (i : Int)).Sum = 0
      · rw [if_pos h2]
      · rw [if_neg h2]
        have h3 : ¬(0 < i → ltR (rd l ((i : Int) - 1)) (rd l (i : Int))) := fun h => hP ⟨h1, h2, h⟩
        unfold ltR at h3
        repeat' (first | with_reducible rfl | (exfalso; omega) | refine ifr (fun _ => ?_) (fun _ => ?_))
    · rw [if_pos h1]
  · simp only [novationref10_Rows.l0]; rw [if_neg (by omega)]
def RowI (l : List api_Row) : Prop := ∀ i, i < l.length → I64 (rd l (i : Int)).Sum
def rowSum (l : List api_Row) : Int := (l.map (·.Sum)).sum
theorem row_vals {l : List api_Row} (hI : RowI l) : ∀ x ∈ l.map (·.Sum), I64 x := by
  intro x hx
  obtain ⟨y, hy, rfl⟩ := List.mem_map.1 hx
  obtain ⟨i, hi, rfl⟩ := mem_rd hy
  exact hI i hi
theorem all_wfit {l : List Int} (h : ∀ x ∈ l, I64 x) : l.all wfit = true := by
  rw [List.all_eq_true]
  intro x hx
  have := h x hx
  unfold I64 at this
  exact decide_eq_true ⟨by omega, by omega⟩
theorem ledger_Total_eq {l : List api_Row} (hI : RowI l) (hl : l.length < 2 ^ 32) : ledger_Total.f l = some (if rowsOk l = true then rowSum l else 0) := by
  unfold ledger_Total.f
  rw [ledger_Right_eq l (by omega), Option.bind_some]
  by_cases hs : rowsOk l = true
  · rw [if_neg (by simp [hs]), if_pos hs]
    have h := loop_gather (fun k s i => ledger_Total.l0 l k s i) l (fun x => [x.Sum]) (fun k i s hi e => ?_) (fun k s => ?_) (by omega)
    · rw [h, Option.bind_some]
      simp only
      rw [flatMap_one (fun x : api_Row => x.Sum)]
      have hv := row_vals hI
      have hw := sum_wid hv (by rw [List.length_map]; omega)
      unfold wide_Sum.f
      rw [if_pos ⟨all_wfit hv, by rw [List.length_map]; omega⟩, Option.bind_some]
      unfold rowSum wfitV
      rw [if_pos hw.1]
    · have e1 := wsucc (i := i) (by omega)
      have hQ := hI i hi
      have hlen : s.length ≤ i := by
        rw [e, flatMap_one (fun x : api_Row => x.Sum), List.length_map, List.length_take]; omega
      simp only [ledger_Total.l0, e1]
      rw [if_pos (by omega), if_pos (by omega)]
      unfold wide_Of.f
      rw [if_pos hQ, Option.bind_some, if_pos (by omega)]
    · simp only [ledger_Total.l0]; rw [if_neg (by omega)]
  · rw [if_pos hs, if_neg hs]
theorem foldl_sum {α : Type} (f : α → Int) (l : List α) (s : Int) : l.foldl (fun t x => t + f x) s = s + (l.map f).sum := by
  induction l generalizing s with
  | nil => simp
  | cons x l ih => rw [List.foldl_cons, ih]; simp; omega
theorem rTotal_eq {l : List api_Row} (hI : RowI l) (hl : l.length < 2 ^ 32) : novationref10_Total.f l = some (if rowsOk l = true then rowSum l else 0) := by
  unfold novationref10_Total.f
  rw [rRows_eq l (by omega), Option.bind_some]
  by_cases hs : rowsOk l = true
  · rw [if_neg (by simp [hs]), if_pos hs]
    have h := loop_sum (fun k s i => novationref10_Total.l0 l k s i) l (fun t x => t + x.Sum) (fun i s => s.natAbs ≤ i * 9223372036854775808) 0 (by simp) (fun k i s hi hb e => ?_) (fun k s => ?_) (by omega)
    · rw [h, Option.bind_some]
      simp only
      rw [foldl_sum (fun x : api_Row => x.Sum), Int.zero_add]
      rfl
    · have e1 := wsucc (i := i) (by omega)
      have hQ := hI i hi
      have hQ' := hQ
      unfold I64 at hQ'
      have hb1 : i * 9223372036854775808 ≤ 2 ^ 32 * 9223372036854775808 := Nat.mul_le_mul_right _ (by omega)
      have hB : BigOk s := bigOk_of (Nat.lt_of_le_of_lt (Nat.le_trans hb hb1) (by decide))
      have hB2 : BigOk (rd l (i : Int)).Sum := bigOk_of (Nat.lt_of_le_of_lt (m := 2 ^ 64) (by omega) (by decide))
      simp only [novationref10_Total.l0, e1]
      refine ⟨?_, ?_⟩
      · rw [if_pos (by omega), if_pos (by omega)]
        unfold novationref1_Whole.f novationref1_Plus.f
        rw [if_pos hQ, Option.bind_some, if_pos ⟨hB, hB2⟩, Option.bind_some]
      · rw [Nat.add_mul]
        omega
    · show novationref10_Total.l0 l (k + 1) s (l.length : Int) = _
      rw [novationref10_Total.l0, if_neg (Int.lt_irrefl _)]
  · rw [if_pos hs, if_neg hs]
theorem rowSum_big {l : List api_Row} (hI : RowI l) (hl : l.length < 2 ^ 32) : BigOk (rowSum l) := (sum_wid (row_vals hI) (by rw [List.length_map]; omega)).2
/-- A row's sum. -/
def getOf (l : List api_Row) (k n : Int) : Int := match l.find? (fun x => decide (x.Kind = k ∧ x.N = n)) with | some x => x.Sum | none => 0
def getR (l : List api_Row) (k n : Int) : Int := if rowsOk l = true then getOf l k n else 0
theorem ledger_Get_eq (l : List api_Row) (k n : Int) (hl : l.length < 2 ^ 59) : ledger_Get.f l k n = some (getR l k n) := by
  have h := loop_find1 (fun q i => ledger_Get.l0 l k n q i) l (fun x => decide (x.Kind = k ∧ x.N = n)) (fun x => x.Sum) (l.length : Int) (fun q i hi => ?_) (fun k => ?_) hl
  · unfold ledger_Get.f getR getOf
    rw [ledger_Right_eq l hl, h]
    simp only [Option.bind_some]
    by_cases hm : rowsOk l = true
    · rw [if_neg (by simp [hm]), if_pos hm]
      cases l.find? (fun x => decide (x.Kind = k ∧ x.N = n)) <;> rfl
    · rw [if_pos hm, if_neg hm]
  · have e1 := wsucc (i := i) (by omega)
    simp only [ledger_Get.l0, e1, decide_eq_true_eq]
    rw [if_pos (by omega), if_pos (by omega)]
    repeat' (first | with_reducible rfl | (exfalso; omega) | refine ifr (fun _ => ?_) (fun _ => ?_) | refine ifl (fun _ => ?_) (fun _ => ?_))
  · simp only [ledger_Get.l0]; rw [if_neg (by omega)]
theorem rGet_eq (l : List api_Row) (k n : Int) (hl : l.length < 2 ^ 59) : novationref10_Get.f l k n = some (getR l k n) := by
  have h := loop_find1 (fun q i => novationref10_Get.l0 l k n q i) l (fun x => decide (x.Kind = k ∧ x.N = n)) (fun x => x.Sum) (l.length : Int) (fun q i hi => ?_) (fun k => ?_) hl
  · unfold novationref10_Get.f getR getOf
    rw [rRows_eq l hl, h]
    simp only [Option.bind_some]
    by_cases hm : rowsOk l = true
    · rw [if_neg (by simp [hm]), if_pos hm]
      cases l.find? (fun x => decide (x.Kind = k ∧ x.N = n)) <;> rfl
    · rw [if_pos hm, if_neg hm]
  · have e1 := wsucc (i := i) (by omega)
    simp only [novationref10_Get.l0, e1, decide_eq_true_eq]
    rw [if_pos (by omega), if_pos (by omega)]
    repeat' (first | with_reducible rfl | (exfalso; omega) | refine ifr (fun _ => ?_) (fun _ => ?_) | refine ifl (fun _ => ?_) (fun _ => ?_))
  · simp only [novationref10_Get.l0]; rw [if_neg (by omega)]
theorem getR_i64 {l : List api_Row} (hI : RowI l) (k n : Int) : I64 (getR l k n) := by
  unfold getR getOf
  split
  · split
    · rename_i x h
      obtain ⟨i, hi, rfl⟩ := mem_rd (List.mem_of_find?_eq_some h)
      exact hI i hi
    · decide
  · decide
end Go.Ax

/- Members and accounts: the program's answers and the reference's are the same ones. -/
set_option linter.unusedVariables false
set_option linter.unusedSimpArgs false
set_option maxRecDepth 100000
set_option maxHeartbeats 4000000
namespace Go.Ax
open Go
def memP (m : List api_Member) (i : Nat) : Prop := 1 ≤ (rd m (i : Int)).Id ∧ (rd m (i : Int)).Id ≤ 12 ∧ 1 ≤ (rd m (i : Int)).Status ∧ (rd m (i : Int)).Status ≤ 4 ∧ (0 < i → (rd m ((i : Int) - 1)).Id < (rd m (i : Int)).Id)
instance (m : List api_Member) : DecidablePred (memP m) := fun i => by unfold memP; infer_instance
def memsOk (m : List api_Member) : Bool := decide (∀ i, i < m.length → memP m i)
theorem roll_Members_eq (m : List api_Member) (hl : m.length < 2 ^ 59) : roll_Members.f m = some (memsOk m) := by
  unfold roll_Members.f memsOk
  rw [loop_allg (fun k i => roll_Members.l0 m k i) m.length (memP m) false (m.length : Int) _ (fun k i hi hP => ?_) (fun k i hi hP => ?_) (fun k => ?_) hl]
  · exact if_dec _
  · have e1 := wsucc (i := i) (by omega)
    have e2 := wpred (i := i) (by omega)
    simp only [roll_Members.l0, e1, e2]
    unfold memP at hP
    repeat' (first | with_reducible rfl | (exfalso; omega) | refine ifr (fun _ => ?_) (fun _ => ?_) | refine ifl (fun _ => ?_) (fun _ => ?_))
  · have e1 := wsucc (i := i) (by omega)
    have e2 := wpred (i := i) (by omega)
    simp only [roll_Members.l0, e1, e2]
    unfold memP at hP
    rw [if_pos (by omega), if_pos (by omega)]
    repeat' (first | with_reducible rfl | (exfalso; omega) | refine ifr (fun _ => ?_) (fun _ => ?_) | refine ifl (fun _ => ?_) (fun _ => ?_))
  · simp only [roll_Members.l0]; rw [if_neg (by omega)]
theorem rMembers_eq (m : List api_Member) (hl : m.length < 2 ^ 59) : novationref10_Members.f m = some (memsOk m) := by
  unfold novationref10_Members.f memsOk
  rw [loop_allg (fun k i => novationref10_Members.l0 m k i) m.length (memP m) false (m.length : Int) _ (fun k i hi hP => ?_) (fun k i hi hP => ?_) (fun k => ?_) hl]
  · exact if_dec _
  · have e1 := wsucc (i := i) (by omega)
    have e2 := wpred (i := i) (by omega)
    simp only [novationref10_Members.l0, e1, e2]
    unfold memP at hP
    repeat' (first | with_reducible rfl | (exfalso; omega) | refine ifr (fun _ => ?_) (fun _ => ?_) | refine ifl (fun _ => ?_) (fun _ => ?_))
  · have e1 := wsucc (i := i) (by omega)
    have e2 := wpred (i := i) (by omega)
    simp only [novationref10_Members.l0, e1, e2]
    unfold memP at hP
    rw [if_pos (by omega), if_pos (by omega)]
    repeat' (first | with_reducible rfl | (exfalso; omega) | refine ifr (fun _ => ?_) (fun _ => ?_) | refine ifl (fun _ => ?_) (fun _ => ?_))
  · simp only [novationref10_Members.l0]; rw [if_neg (by omega)]
/-- A member's status. -/
def statusOf (m : List api_Member) (id : Int) : Int := match m.find? (fun x => decide (x.Id = id)) with | some x => x.Status | none => 0
theorem rstatus_eq (m : List api_Member) (id : Int) (hl : m.length < 2 ^ 59) : novationref10_status.f m id = some (statusOf m id) := by
  have h := loop_find1 (fun k i => novationref10_status.l0 m id k i) m (fun x => decide (x.Id = id)) (fun x => x.Status) (m.length : Int) (fun k i hi => ?_) (fun k => ?_) hl
  · unfold novationref10_status.f statusOf
    rw [h]
    cases m.find? (fun x => decide (x.Id = id)) <;> rfl
  · have e1 := wsucc (i := i) (by omega)
    simp only [novationref10_status.l0, e1, decide_eq_true_eq]
    rw [if_pos (by omega), if_pos (by omega)]
  · simp only [novationref10_status.l0]; rw [if_neg (by omega)]
def statusR (m : List api_Member) (id : Int) : Int := if memsOk m = true then statusOf m id else 0
theorem roll_Status_eq (m : List api_Member) (id : Int) (hl : m.length < 2 ^ 59) : roll_Status.f m id = some (statusR m id) := by
  have h := loop_find1 (fun k i => roll_Status.l0 m id k i) m (fun x => decide (x.Id = id)) (fun x => x.Status) (m.length : Int) (fun k i hi => ?_) (fun k => ?_) hl
  · unfold roll_Status.f statusR statusOf
    rw [roll_Members_eq m hl, h]
    simp only [Option.bind_some]
    by_cases hm : memsOk m = true
    · rw [if_neg (by simp [hm]), if_pos hm]
      cases m.find? (fun x => decide (x.Id = id)) <;> rfl
    · rw [if_pos hm, if_neg hm]
  · have e1 := wsucc (i := i) (by omega)
    simp only [roll_Status.l0, e1, decide_eq_true_eq]
    rw [if_pos (by omega), if_pos (by omega)]
  · simp only [roll_Status.l0]; rw [if_neg (by omega)]
theorem rStatus_eq (m : List api_Member) (id : Int) (hl : m.length < 2 ^ 59) : novationref10_Status.f m id = some (statusR m id) := by
  unfold novationref10_Status.f statusR
  rw [rMembers_eq m hl, rstatus_eq m id hl]
  by_cases hm : memsOk m = true <;> simp [hm]
/-- An account by itself. -/
def accP (a : List api_Acc) (i : Nat) : Prop := 1 ≤ (rd a (i : Int)).Id ∧ (rd a (i : Int)).Id ≤ 24 ∧ 1 ≤ (rd a (i : Int)).Member ∧ (rd a (i : Int)).Member ≤ 12 ∧ ((rd a (i : Int)).Kind = 1 ∨ (rd a (i : Int)).Kind = 2) ∧ 0 ≤ (rd a (i : Int)).Limit ∧ (rd a (i : Int)).Limit ≤ 1000000000000 ∧ (0 < i → (rd a ((i : Int) - 1)).Id < (rd a (i : Int)).Id)
instance (a : List api_Acc) : DecidablePred (accP a) := fun i => by unfold accP; infer_instance
/-- No other house of its member ahead. -/
def accH (a : List api_Acc) (i : Nat) : Prop := (rd a (i : Int)).Kind = 1 → ∀ j, j < i → ¬((rd a (j : Int)).Kind = 1 ∧ (rd a (j : Int)).Member = (rd a (i : Int)).Member)
instance (a : List api_Acc) : DecidablePred (accH a) := fun i => by unfold accH; infer_instance
def accsOk (a : List api_Acc) : Bool := decide (∀ i, i < a.length → accP a i ∧ accH a i)
/-- Which members have a house ahead of a place. -/
def HI (a : List api_Acc) (i : Nat) (h : List Bool) : Prop := h.length = 13 ∧ ∀ x : Nat, x < 13 → (rd h (x : Int) = true ↔ ∃ j, j < i ∧ (rd a (j : Int)).Kind = 1 ∧ (rd a (j : Int)).Member = (x : Int))
theorem HI_no {a : List api_Acc} {i : Nat} {h : List Bool} (hh : HI a i h) (hk : ¬(rd a (i : Int)).Kind = 1) : HI a (i + 1) h := by
  refine ⟨hh.1, fun x hx => (hh.2 x hx).trans ⟨fun ⟨j, h1, h2⟩ => ⟨j, by omega, h2⟩, fun ⟨j, h1, h2⟩ => ?_⟩⟩
  by_cases e : j = i
  · subst e; exact absurd h2.1 hk
  · exact ⟨j, by omega, h2⟩
theorem rd_set {α : Type} [Inhabited α] (l : List α) {i j : Nat} (x : α) (h : j < l.length) : rd (l.set i x) (j : Int) = if i = j then x else rd l (j : Int) := by
  rw [rd_get l h, rd_get (l.set i x) (by simpa using h), List.getElem_set]
theorem HI_yes {a : List api_Acc} {i : Nat} {h : List Bool} (hh : HI a i h) (hk : (rd a (i : Int)).Kind = 1) {x : Nat} (hx : (rd a (i : Int)).Member = (x : Int)) (h13 : x < 13) : HI a (i + 1) (h.set x true) := by
  refine ⟨by simpa using hh.1, fun y hy => ?_⟩
  rw [rd_set h true (by rw [hh.1]; exact hy)]
  by_cases e : x = y
  · subst e
    simp only [if_true, true_iff]
    exact ⟨i, by omega, hk, hx⟩
  · rw [if_neg e]
    refine (hh.2 y hy).trans ⟨fun ⟨j, h1, h2⟩ => ⟨j, by omega, h2⟩, fun ⟨j, h1, h2⟩ => ?_⟩
    by_cases e2 : j = i
    · subst e2; exfalso; have := h2.2; omega
    · exact ⟨j, by omega, h2⟩
theorem HI_acc {a : List api_Acc} {i : Nat} {h : List Bool} (hh : HI a i h) {x : Nat} (hx : (rd a (i : Int)).Member = (x : Int)) (h13 : x < 13) (hk : (rd a (i : Int)).Kind = 1) : accH a i ↔ ¬(rd h (x : Int) = true) := by
  rw [hh.2 x h13]
  unfold accH
  constructor
  · intro h1 ⟨j, h2, h3⟩
    exact h1 hk j h2 ⟨h3.1, by rw [h3.2, hx]⟩
  · intro h1 _ j h2 h3
    exact h1 ⟨j, h2, h3.1, by rw [h3.2, hx]⟩
theorem accsOk_at {a : List api_Acc} (h : accsOk a = true) {i : Nat} (hi : i < a.length) : accP a i ∧ accH a i := of_decide_eq_true h i hi
theorem houses0 (a : List api_Acc) : HI a 0 [false, false, false, false, false, false, false, false, false, false, false, false, false] := by
  refine ⟨rfl, fun x hx => ⟨fun h => ?_, fun ⟨j, h, _⟩ => by omega⟩⟩
  exfalso
  have : ∀ x : Fin 13, rd [false, false, false, false, false, false, false, false, false, false, false, false, false] (x.val : Int) = false := by decide
  rw [this ⟨x, hx⟩] at h
  cases h
theorem roll_Accs_eq (a : List api_Acc) (hl : a.length < 2 ^ 59) : roll_Accs.f a = some (accsOk a) := by
  obtain ⟨r, h1, h2⟩ := loop_inv (fun k (p : List Bool × Nat) => roll_Accs.l0 a k p.1 (p.2 : Int)) (fun p => p.2 ≤ a.length ∧ HI a p.2 p.1 ∧ ∀ j, j < p.2 → accP a j ∧ accH a j) (fun p => a.length - p.2)
    (fun r => (accsOk a = true ∧ ∃ t, r = .out t) ∨ (accsOk a = false ∧ r = .ret false))
    (fun k p hp => by
      obtain ⟨s, i⟩ := p
      obtain ⟨hi, hI, hs⟩ := hp
      simp only at hi hI hs
      by_cases h : i < a.length
      · have e1 := wsucc (i := i) (by omega)
        have e2 := wpred (i := i) (by omega)
        by_cases hp : accP a i
        · have hp' := hp
          unfold accP at hp'
          obtain ⟨x, hx⟩ : ∃ x : Nat, (rd a (i : Int)).Member = (x : Int) := ⟨(rd a (i : Int)).Member.toNat, by omega⟩
          have h13 : x < 13 := by omega
          by_cases hk : (rd a (i : Int)).Kind = 1
          · have hac := HI_acc hI hx h13 hk
            by_cases hh : rd s (x : Int) = true
            · refine .inr ⟨.ret false, ?_, .inr ⟨?_, rfl⟩⟩
              · have hlen := hI.1
                simp only [roll_Accs.l0, e1, e2, hx]
                rw [if_pos (by omega), if_pos (by omega)]
                by_cases h0 : 0 < i
                · repeat (first | rw [if_neg (by omega)] | rw [if_pos (by omega)] | rw [if_pos hh])
                · repeat (first | rw [if_neg (by omega)] | rw [if_pos (by omega)] | rw [if_pos hh])
              · exact decide_eq_false fun hA => absurd (hA i h).2 (fun h => hac.1 h hh)
            · refine .inl ⟨(s.set x true, i + 1), ?_, ⟨h, HI_yes hI hk hx h13, fun j hj => ?_⟩, by simp only; omega⟩
              · have hlen := hI.1
                simp only [roll_Accs.l0, e1, e2, hx, Int.toNat_natCast]
                rw [if_pos (by omega), if_pos (by omega)]
                by_cases h0 : 0 < i
                · repeat (first | rw [if_neg (by omega)] | rw [if_pos (by omega)] | rw [if_neg hh])
                · repeat (first | rw [if_neg (by omega)] | rw [if_pos (by omega)] | rw [if_neg hh])
              · by_cases e : j = i
                · subst e; exact ⟨hp, hac.2 hh⟩
                · exact hs j (by simp only at hj; omega)
          · refine .inl ⟨(s, i + 1), ?_, ⟨h, HI_no hI hk, fun j hj => ?_⟩, by simp only; omega⟩
            · simp only [roll_Accs.l0, e1, e2]
              repeat' (first | with_reducible rfl | (exfalso; omega) | refine ifr (fun _ => ?_) (fun _ => ?_) | refine ifl (fun _ => ?_) (fun _ => ?_))
            · by_cases e : j = i
              · subst e; exact ⟨hp, fun hk' => absurd hk' hk⟩
              · exact hs j (by simp only at hj; omega)
        · refine .inr ⟨.ret false, ?_, .inr ⟨decide_eq_false fun hA => absurd (hA i h).1 hp, rfl⟩⟩
          simp only [roll_Accs.l0, e1, e2]
          unfold accP at hp
          rw [if_pos (by omega), if_pos (by omega)]
          repeat' (first | with_reducible rfl | (exfalso; omega) | refine ifr (fun _ => ?_) (fun _ => ?_) | refine ifl (fun _ => ?_) (fun _ => ?_))
      · have e : i = a.length := by omega
        subst e
        refine .inr ⟨.out (s, (a.length : Int)), ?_, .inl ⟨decide_eq_true hs, _, rfl⟩⟩
        simp only [roll_Accs.l0]; rw [if_neg (by omega)]) (s0 := ([false, false, false, false, false, false, false, false, false, false, false, false, false], 0)) ⟨Nat.zero_le _, houses0 a, fun j hj => absurd hj (Nat.not_lt_zero j)⟩ (by simp only; omega)
  unfold roll_Accs.f
  rw [show ((0 : Nat) : Int) = 0 from rfl] at h1
  rw [h1]
  rcases h2 with ⟨e, t, rfl⟩ | ⟨e, rfl⟩ <;> rw [e] <;> rfl
theorem rAccs_in (a : List api_Acc) {i : Nat} (hi : i < a.length) (hl : a.length < 2 ^ 59) :
    novationref10_Accs.l1 a (i : Int) FUEL 0 = some (if accH a i then .out (i : Int) else .ret false) ∧ novationref10_Accs.l2 a (i : Int) FUEL 0 = some (if accH a i then .out (i : Int) else .ret false) ∧
    novationref10_Accs.l3 a (i : Int) FUEL 0 = some (if accH a i then .out (i : Int) else .ret false) ∧ novationref10_Accs.l4 a (i : Int) FUEL 0 = some (if accH a i then .out (i : Int) else .ret false) := by
  have hP : accH a i ↔ ∀ j, j < i → ¬((rd a (i : Int)).Kind = 1 ∧ (rd a (j : Int)).Kind = 1 ∧ (rd a (j : Int)).Member = (rd a (i : Int)).Member) := by
    unfold accH
    exact ⟨fun h j hj h2 => h h2.1 j hj h2.2, fun h hk j hj h2 => h j hj ⟨hk, h2⟩⟩
  refine ⟨?_, ?_, ?_, ?_⟩
  · rw [loop_all1 (fun k j => novationref10_Accs.l1 a (i : Int) k j) i (fun j => ¬((rd a (i : Int)).Kind = 1 ∧ (rd a (j : Int)).Kind = 1 ∧ (rd a (j : Int)).Member = (rd a (i : Int)).Member)) false (i : Int) (fun k j hj => ?_) (fun k => by simp only [novationref10_Accs.l1]; rw [if_neg (by omega)]) (by omega)]
    · simp only [hP]
    · have e1 := wsucc (i := j) (by omega)
      simp only [novationref10_Accs.l1, e1]
      repeat' (first | with_reducible rfl | (exfalso; omega) | refine ifr (fun _ => ?_) (fun _ => ?_) | refine ifl (fun _ => ?_) (fun _ => ?_))
  · rw [loop_all1 (fun k j => novationref10_Accs.l2 a (i : Int) k j) i (fun j => ¬((rd a (i : Int)).Kind = 1 ∧ (rd a (j : Int)).Kind = 1 ∧ (rd a (j : Int)).Member = (rd a (i : Int)).Member)) false (i : Int) (fun k j hj => ?_) (fun k => by simp only [novationref10_Accs.l2]; rw [if_neg (by omega)]) (by omega)]
    · simp only [hP]
    · have e1 := wsucc (i := j) (by omega)
      simp only [novationref10_Accs.l2, e1]
      repeat' (first | with_reducible rfl | (exfalso; omega) | refine ifr (fun _ => ?_) (fun _ => ?_) | refine ifl (fun _ => ?_) (fun _ => ?_))
  · rw [loop_all1 (fun k j => novationref10_Accs.l3 a (i : Int) k j) i (fun j => ¬((rd a (i : Int)).Kind = 1 ∧ (rd a (j : Int)).Kind = 1 ∧ (rd a (j : Int)).Member = (rd a (i : Int)).Member)) false (i : Int) (fun k j hj => ?_) (fun k => by simp only [novationref10_Accs.l3]; rw [if_neg (by omega)]) (by omega)]
    · simp only [hP]
    · have e1 := wsucc (i := j) (by omega)
      simp only [novationref10_Accs.l3, e1]
      repeat' (first | with_reducible rfl | (exfalso; omega) | refine ifr (fun _ => ?_) (fun _ => ?_) | refine ifl (fun _ => ?_) (fun _ => ?_))
  · rw [loop_all1 (fun k j => novationref10_Accs.l4 a (i : Int) k j) i (fun j => ¬((rd a (i : Int)).Kind = 1 ∧ (rd a (j : Int)).Kind = 1 ∧ (rd a (j : Int)).Member = (rd a (i : Int)).Member)) false (i : Int) (fun k j hj => ?_) (fun k => by simp only [novationref10_Accs.l4]; rw [if_neg (by omega)]) (by omega)]
    · simp only [hP]
    · have e1 := wsucc (i := j) (by omega)
      simp only [novationref10_Accs.l4, e1]
      repeat' (first | with_reducible rfl | (exfalso; omega) | refine ifr (fun _ => ?_) (fun _ => ?_) | refine ifl (fun _ => ?_) (fun _ => ?_))
theorem rAccs_eq (a : List api_Acc) (hl : a.length < 2 ^ 59) : novationref10_Accs.f a = some (accsOk a) := by
  unfold novationref10_Accs.f accsOk
  rw [loop_allg (fun k i => novationref10_Accs.l0 a k i) a.length (fun i => accP a i ∧ accH a i) false (a.length : Int) _ (fun k i hi hP => ?_) (fun k i hi hP => ?_) (fun k => ?_) hl]
  · exact if_dec _
  · have e1 := wsucc (i := i) (by omega)
    have e2 := wpred (i := i) (by omega)
    obtain ⟨g1, g2, g3, g4⟩ := rAccs_in a hi hl
    simp only [novationref10_Accs.l0, e1, e2, g1, g2, g3, g4, Option.bind_some, flow_ifL]
    obtain ⟨hP, hh⟩ := hP
    unfold accP at hP
    simp only [hh, if_true]
    repeat' (first | with_reducible rfl | (exfalso; omega) | refine ifr (fun _ => ?_) (fun _ => ?_) | refine ifl (fun _ => ?_) (fun _ => ?_))
  · have e1 := wsucc (i := i) (by omega)
    have e2 := wpred (i := i) (by omega)
    obtain ⟨g1, g2, g3, g4⟩ := rAccs_in a hi hl
    simp only [novationref10_Accs.l0, e1, e2, g1, g2, g3, g4, Option.bind_some, flow_ifL]
    rw [if_pos (by omega), if_pos (by omega)]
    by_cases hh : accH a i
    · have hP : ¬accP a i := fun h => hP ⟨h, hh⟩
      unfold accP at hP
      simp only [hh, if_true]
      repeat' (first | with_reducible rfl | (exfalso; omega) | refine ifr (fun _ => ?_) (fun _ => ?_) | refine ifl (fun _ => ?_) (fun _ => ?_))
    · simp only [hh, if_false]
      repeat' (first | with_reducible rfl | (exfalso; omega) | refine ifr (fun _ => ?_) (fun _ => ?_) | refine ifl (fun _ => ?_) (fun _ => ?_))
  · simp only [novationref10_Accs.l0]; rw [if_neg (by omega)]
def noAcc : api_Acc := ⟨0, 0, 0, 0⟩
def accOf (a : List api_Acc) (id : Int) : api_Acc × Bool := match a.find? (fun x => decide (x.Id = id)) with | some x => (x, true) | none => (noAcc, false)
def accR (a : List api_Acc) (id : Int) : api_Acc × Bool := if accsOk a = true then accOf a id else (noAcc, false)
theorem rfind_eq (a : List api_Acc) (id : Int) (hl : a.length < 2 ^ 59) : novationref10_find.f a id = some (accOf a id) := by
  have h := loop_find1 (fun k i => novationref10_find.l0 a id k i) a (fun x => decide (x.Id = id)) (fun x => (x, true)) (a.length : Int) (fun k i hi => ?_) (fun k => ?_) hl
  · unfold novationref10_find.f accOf
    rw [h]
    cases a.find? (fun x => decide (x.Id = id)) <;> rfl
  · have e1 := wsucc (i := i) (by omega)
    simp only [novationref10_find.l0, e1, decide_eq_true_eq]
    rw [if_pos (by omega), if_pos (by omega)]
  · simp only [novationref10_find.l0]; rw [if_neg (by omega)]
theorem rFind_eq (a : List api_Acc) (id : Int) (hl : a.length < 2 ^ 59) : novationref10_Find.f a id = some (accR a id) := by
  unfold novationref10_Find.f accR
  rw [rAccs_eq a hl, rfind_eq a id hl]
  by_cases hm : accsOk a = true
  · simp [hm]
  · simp [hm, noAcc]
theorem roll_Find_eq (a : List api_Acc) (id : Int) (hl : a.length < 2 ^ 59) : roll_Find.f a id = some (accR a id) := by
  have h := loop_find1 (fun k i => roll_Find.l0 a id k i) a (fun x => decide (x.Id = id)) (fun x => (x, true)) (a.length : Int) (fun k i hi => ?_) (fun k => ?_) hl
  · unfold roll_Find.f accR accOf
    rw [roll_Accs_eq a hl, h]
    simp only [Option.bind_some]
    by_cases hm : accsOk a = true
    · rw [if_neg (by simp [hm]), if_pos hm]
      cases a.find? (fun x => decide (x.Id = id)) <;> rfl
    · rw [if_pos hm, if_neg hm]; rfl
  · have e1 := wsucc (i := i) (by omega)
    simp only [roll_Find.l0, e1, decide_eq_true_eq]
    rw [if_pos (by omega), if_pos (by omega)]
  · simp only [roll_Find.l0]; rw [if_neg (by omega)]
/-- Members and accounts together. -/
def rollOk (m : List api_Member) (a : List api_Acc) : Bool := memsOk m && (accsOk a && decide (∀ i, i < a.length → ¬ statusOf m (rd a (i : Int)).Member = 0))
theorem roll_Right_eq (m : List api_Member) (a : List api_Acc) (hm : m.length < 2 ^ 59) (hl : a.length < 2 ^ 59) : roll_Right.f m a = some (rollOk m a) := by
  unfold roll_Right.f rollOk
  rw [roll_Members_eq m hm, roll_Accs_eq a hl]
  simp only [Option.bind_some]
  cases hM : memsOk m with
  | false => simp
  | true =>
    cases accsOk a with
    | false => simp
    | true =>
      simp only [not_true_eq_false, if_false, Bool.true_and]
      rw [loop_allg (fun k i => roll_Right.l0 m a k i) a.length (fun i => ¬ statusOf m (rd a (i : Int)).Member = 0) false (a.length : Int) _ (fun k i hi hP => ?_) (fun k i hi hP => ?_) (fun k => ?_) hl]
      · exact if_dec _
      · have e1 := wsucc (i := i) (by omega)
        simp only [roll_Right.l0, e1, roll_Status_eq m _ hm, Option.bind_some, statusR, hM, if_true]
        rw [if_pos (by omega), if_pos (by omega), if_neg hP]
      · have e1 := wsucc (i := i) (by omega)
        have hP := Classical.not_not.1 hP
        simp only [roll_Right.l0, e1, roll_Status_eq m _ hm, Option.bind_some, statusR, hM, if_true]
        rw [if_pos (by omega), if_pos (by omega), if_pos hP]
      · simp only [roll_Right.l0]; rw [if_neg (by omega)]
theorem rRightRoll_eq (m : List api_Member) (a : List api_Acc) (hm : m.length < 2 ^ 59) (hl : a.length < 2 ^ 59) : novationref10_RightRoll.f m a = some (rollOk m a) := by
  unfold novationref10_RightRoll.f rollOk
  rw [rMembers_eq m hm, rAccs_eq a hl]
  simp only [Option.bind_some]
  cases hM : memsOk m with
  | false => simp
  | true =>
    cases accsOk a with
    | false => simp
    | true =>
      simp only [not_true_eq_false, if_false, Bool.true_and]
      rw [loop_allg (fun k i => novationref10_RightRoll.l0 m a k i) a.length (fun i => ¬ statusOf m (rd a (i : Int)).Member = 0) false (a.length : Int) _ (fun k i hi hP => ?_) (fun k i hi hP => ?_) (fun k => ?_) hl]
      · exact if_dec _
      · have e1 := wsucc (i := i) (by omega)
        simp only [novationref10_RightRoll.l0, e1, rstatus_eq m _ hm, Option.bind_some, statusR, hM, if_true]
        rw [if_pos (by omega), if_pos (by omega), if_neg hP]
      · have e1 := wsucc (i := i) (by omega)
        have hP := Classical.not_not.1 hP
        simp only [novationref10_RightRoll.l0, e1, rstatus_eq m _ hm, Option.bind_some, statusR, hM, if_true]
        rw [if_pos (by omega), if_pos (by omega), if_pos hP]
      · simp only [novationref10_RightRoll.l0]; rw [if_neg (by omega)]
theorem rollOk_m {m : List api_Member} {a : List api_Acc} (h : rollOk m a = true) : memsOk m = true ∧ accsOk a = true := by
  unfold rollOk at h
  simp only [Bool.and_eq_true] at h
  exact ⟨h.1, h.2.1⟩
end Go.Ax

/- Books: the program's answers and the reference's are the same ones. -/
set_option linter.unusedVariables false
set_option linter.unusedSimpArgs false
set_option maxRecDepth 100000
set_option maxHeartbeats 4000000
namespace Go.Ax
open Go
def orderOk (o : api_Order) : Prop := 1 ≤ o.Id ∧ o.Id ≤ 1099511627776 ∧ 1 ≤ o.Acc ∧ o.Acc ≤ 24 ∧ 0 ≤ o.Inst ∧ o.Inst < 6 ∧ (o.Side = 1 ∨ o.Side = 2) ∧ 1 ≤ o.Q ∧ o.Q ≤ 1000000000 ∧ 1 ≤ o.P ∧ o.P ≤ 1000000000000
instance (o : api_Order) : Decidable (orderOk o) := by unfold orderOk; infer_instance
theorem queue_Order_eq (o : api_Order) : queue_Order.f o = some (decide (orderOk o)) := by
  unfold queue_Order.f
  repeat' (first | refine ifr (fun _ => ?_) (fun _ => ?_))
  all_goals unfold orderOk
  all_goals first | exact some_dec (by omega) | exact some_false (by omega)
theorem RightOrder_eq (o : api_Order) : novationref15_RightOrder.f o = some (decide (orderOk o)) := by
  unfold novationref15_RightOrder.f
  simp only [rprice_eq, Option.bind_some]
  repeat' (first | refine ifr (fun _ => ?_) (fun _ => ?_))
  all_goals unfold orderOk
  all_goals first | exact some_dec (by omega) | exact some_false (by omega)
def ordP (l : List api_Order) (i : Nat) : Prop := orderOk (rd l (i : Int)) ∧ (0 < i → (rd l ((i : Int) - 1)).Id < (rd l (i : Int)).Id)
instance (l : List api_Order) : DecidablePred (ordP l) := fun i => by unfold ordP; infer_instance
def ordersOk (l : List api_Order) : Bool := decide (∀ i, i < l.length → ordP l i) && decide (l.length ≤ 32)
theorem queue_Right_eq (l : List api_Order) (hl : l.length < 2 ^ 59) : queue_Right.f l = some (ordersOk l) := by
  unfold queue_Right.f ordersOk
  rw [loop_allg (fun k i => queue_Right.l0 l k i) l.length (ordP l) false (l.length : Int) _ (fun k i hi hP => ?_) (fun k i hi hP => ?_) (fun k => ?_) hl]
  · by_cases h : ∀ i, i < l.length → ordP l i
    · rw [if_pos h, decide_eq_true h, Bool.true_and]; exact some_dec (by omega)
    · rw [if_neg h, decide_eq_false h, Bool.false_and]
  · have e1 := wsucc (i := i) (by omega)
    have e2 := wpred (i := i) (by omega)
    simp only [queue_Right.l0, e1, e2, queue_Order_eq, Option.bind_some, decide_eq_true_eq]
    obtain ⟨h1, h2⟩ := hP
    rw [if_pos (by omega), if_pos (by omega), if_neg (fun h => h h1)]
    repeat' (first | with_reducible rfl | (exfalso; omega) | refine ifr (fun _ => ?_) (fun _ => ?_))
  · have e1 := wsucc (i := i) (by omega)
    have e2 := wpred (i := i) (by omega)
    simp only [queue_Right.l0, e1, e2, queue_Order_eq, Option.bind_some, decide_eq_true_eq]
    rw [if_pos (by omega), if_pos (by omega)]
    by_cases h1 : orderOk (rd l (i : Int))
    · have h3 : ¬(0 < i → (rd l ((i : Int) - 1)).Id < (rd l (i : Int)).Id) := fun h => hP ⟨h1, h⟩
      rw [if_neg (fun h => h h1)]
      repeat' (first | with_reducible rfl | (exfalso; omega) | refine ifr (fun _ => ?_) (fun _ => ?_))
    · rw [if_pos h1]
  · simp only [queue_Right.l0]; rw [if_neg (by omega)]
theorem rOrders_eq (l : List api_Order) (hl : l.length < 2 ^ 59) : novationref15_Orders.f l = some (ordersOk l) := by
  unfold novationref15_Orders.f ordersOk
  by_cases h32 : l.length ≤ 32
  · rw [if_neg (by omega), loop_allg (fun k i => novationref15_Orders.l0 l k i) l.length (ordP l) false (l.length : Int) _ (fun k i hi hP => ?_) (fun k i hi hP => ?_) (fun k => ?_) hl]
    · rw [decide_eq_true h32, Bool.and_true]; exact if_dec _
    · have e1 := wsucc (i := i) (by omega)
      have e2 := wpred (i := i) (by omega)
      simp only [novationref15_Orders.l0, e1, e2, RightOrder_eq, Option.bind_some, decide_eq_true_eq]
      obtain ⟨h1, h2⟩ := hP
      rw [if_pos (by omega), if_pos (by omega), if_neg (fun h => h h1)]
      repeat' (first | with_reducible rfl | (exfalso; omega) | refine ifr (fun _ => ?_) (fun _ => ?_))
    · have e1 := wsucc (i := i) (by omega)
      have e2 := wpred (i := i) (by omega)
      simp only [novationref15_Orders.l0, e1, e2, RightOrder_eq, Option.bind_some, decide_eq_true_eq]
      rw [if_pos (by omega), if_pos (by omega)]
      by_cases h1 : orderOk (rd l (i : Int))
      · have h3 : ¬(0 < i → (rd l ((i : Int) - 1)).Id < (rd l (i : Int)).Id) := fun h => hP ⟨h1, h⟩
        rw [if_neg (fun h => h h1)]
        repeat' (first | with_reducible rfl | (exfalso; omega) | refine ifr (fun _ => ?_) (fun _ => ?_))
      · rw [if_pos h1]
    · simp only [novationref15_Orders.l0]; rw [if_neg (by omega)]
  · rw [if_pos (by omega), decide_eq_false h32, Bool.and_false]
/-- What a book's numbers are. -/
def CfgL (c : api_Config) : Prop := c.Insts.length < 2 ^ 32
def BookL (b : api_Book) : Prop := b.Members.length < 2 ^ 32 ∧ b.Accs.length < 2 ^ 32 ∧ b.Rows.length < 2 ^ 32 ∧ b.Stock.length < 2 ^ 32 ∧ b.Prices.length < 2 ^ 32 ∧ b.Orders.length < 2 ^ 32 ∧ RowI b.Rows ∧ PosI b.Stock
/-- Whose a row, a position, an order may be. -/
def rowFor (b : api_Book) (r : api_Row) : Prop := (r.Kind = 5 → (accR b.Accs r.N).2 = true) ∧ (r.Kind = 6 ∨ r.Kind = 7 → ¬ statusR b.Members r.N = 0)
instance (b : api_Book) (r : api_Row) : Decidable (rowFor b r) := by unfold rowFor; infer_instance
def posFor (c : api_Config) (b : api_Book) (p : api_Pos) : Prop := (p.Acc = 0 ∨ (accR b.Accs p.Acc).2 = true) ∧ p.Inst < c.Insts.length
instance (c : api_Config) (b : api_Book) (p : api_Pos) : Decidable (posFor c b p) := by unfold posFor; infer_instance
def ordFor (c : api_Config) (b : api_Book) (o : api_Order) : Prop := (accR b.Accs o.Acc).2 = true ∧ o.Inst < c.Insts.length
instance (c : api_Config) (b : api_Book) (o : api_Order) : Decidable (ordFor c b o) := by unfold ordFor; infer_instance
def inBook (c : api_Config) (b : api_Book) : Prop := (∀ i, i < b.Rows.length → rowFor b (rd b.Rows (i : Int))) ∧ (∀ i, i < b.Stock.length → posFor c b (rd b.Stock (i : Int))) ∧ (∀ i, i < b.Orders.length → ordFor c b (rd b.Orders (i : Int))) ∧ (∀ i, i < b.Prices.length → priceOk (rd b.Prices (i : Int)) = true)
instance (c : api_Config) (b : api_Book) : Decidable (inBook c b) := by unfold inBook; infer_instance
/-- A book that may be. -/
def bookOk (c : api_Config) (b : api_Book) : Bool := decide (planOk c = true ∧ rollOk b.Members b.Accs = true ∧ rowsOk b.Rows = true ∧ rowSum b.Rows = 0 ∧ flatOk b.Stock = true ∧ ordersOk b.Orders = true ∧ b.Prices.length = c.Insts.length ∧ inBook c b)
theorem book_Acc_eq {b : api_Book} (hb : BookL b) (id : Int) : book_Acc.f b id = some (accR b.Accs id).2 := by
  unfold book_Acc.f
  rw [roll_Find_eq b.Accs id (by have := hb.2.1; omega), Option.bind_some]
theorem there_eq {b : api_Book} (hb : BookL b) (id : Int) : novationref15_there.f b id = some (decide ((accR b.Accs id).2 = true ∨ id = 0)) := by
  unfold novationref15_there.f
  rw [rFind_eq b.Accs id (by have := hb.2.1; omega), Option.bind_some]
  by_cases h : (accR b.Accs id).2 = true
  · simp [h]
  · simp [h, Bool.beq_eq_decide_eq]
theorem prices_l0 (l : List Int) (hl : l.length < 2 ^ 59) : slices_ContainsFunc_int64_book_Right_1.f l = some (!decide (∀ i, i < l.length → priceOk (rd l (i : Int)) = true)) := by
  unfold slices_ContainsFunc_int64_book_Right_1.f slices_IndexFunc_int64_book_Right_1.f
  have h := loop_find (fun k i => slices_IndexFunc_int64_book_Right_1.l0 l k i) l.length (fun i => !priceOk (rd l (i : Int))) (fun i => (i : Int)) (l.length : Int) (fun k i hi hp => ?_) (fun k i hi hp => ?_) (fun k => ?_) hl
  · rw [h]
    cases e : (List.range l.length).find? (fun i : Nat => !priceOk (rd l (i : Int))) with
    | none =>
      have hA : ∀ i, i < l.length → priceOk (rd l (i : Int)) = true := fun i hi => by
        have := List.find?_eq_none.1 e i (List.mem_range.2 hi)
        simpa using this
      rw [decide_eq_true hA]; rfl
    | some i =>
      have h1 := List.find?_some e
      have h2 := List.mem_range.1 (List.mem_of_find?_eq_some e)
      have hA : ¬∀ i, i < l.length → priceOk (rd l (i : Int)) = true := fun h => by rw [h i h2] at h1; simp at h1
      rw [decide_eq_false hA]
      show (some (i : Int)).bind _ = _
      rw [Option.bind_some, decide_eq_true (by omega)]; rfl
  · have e1 := wsucc (i := i) (by omega)
    simp only [slices_IndexFunc_int64_book_Right_1.l0, e1, book_Right_1.f, mark_Price_eq, Option.bind_some, hp]
    rw [if_pos (by omega), if_pos (by omega), if_neg (by simp)]
  · have e1 := wsucc (i := i) (by omega)
    simp only [slices_IndexFunc_int64_book_Right_1.l0, e1, book_Right_1.f, mark_Price_eq, Option.bind_some, hp]
    rw [if_pos (by omega), if_pos (by omega), if_pos trivial]
  · simp only [slices_IndexFunc_int64_book_Right_1.l0]; rw [if_neg (by omega)]
theorem peel {b : Bool} {Q : Prop} [Decidable Q] {K : Option Bool} (h : b = true → K = some (decide Q)) : (if ¬(b = true) then some false else K) = some (decide (b = true ∧ Q)) := by
  cases b with
  | true => rw [if_neg (by simp), h rfl]; simp
  | false => simp
theorem peelP {P Q : Prop} [Decidable P] [Decidable Q] {K : Option Bool} (h : P → K = some (decide Q)) : (if ¬P then some false else K) = some (decide (P ∧ Q)) := by
  by_cases hp : P
  · rw [if_neg (fun h => h hp), h hp]; simp [hp]
  · rw [if_pos hp]; simp [hp]
theorem peelQ {P Q : Prop} [Decidable P] [Decidable Q] {K : Option Bool} (h : P → K = some (decide Q)) : (if P then K else some false) = some (decide (P ∧ Q)) := by
  by_cases hp : P
  · rw [if_pos hp, h hp]; simp [hp]
  · rw [if_neg hp]; simp [hp]
theorem book_Right_eq {c : api_Config} {b : api_Book} (hc : CfgL c) (hb : BookL b) : book_Right.f c b = some (bookOk c b) := by
  obtain ⟨l1, l2, l3, l4, l5, l6, hR, hS⟩ := id hb
  unfold CfgL at hc
  unfold book_Right.f bookOk
  rw [plan_Right_eq c (by omega), Option.bind_some]
  refine peel fun h1 => ?_
  rw [roll_Right_eq _ _ (by omega) (by omega), Option.bind_some]
  refine peel fun h2 => ?_
  rw [ledger_Right_eq _ (by omega), Option.bind_some]
  refine peel fun h3 => ?_
  rw [ledger_Total_eq hR (by omega), Option.bind_some, if_pos h3]
  simp only [wide_Sign.f, Option.bind_some, cmpI_zero]
  refine peelP fun h4 => ?_
  rw [stock_Flat_eq hS (by omega), Option.bind_some]
  refine peel fun h5 => ?_
  rw [queue_Right_eq _ (by omega), Option.bind_some]
  refine peel fun h6 => ?_
  simp only [Int.natCast_inj]
  refine peelP fun h7 => ?_
  rw [loop_allg (fun k i => book_Right.l0 b k i) b.Rows.length (fun i => rowFor b (rd b.Rows (i : Int))) false (b.Rows.length : Int) _ (fun k i hi hP => ?_) (fun k i hi hP => ?_) (fun k => ?_) (by omega)]
  · refine peelQ fun h8 => ?_
    rw [loop_allg (fun k i => book_Right.l1 c b k i) b.Stock.length (fun i => posFor c b (rd b.Stock (i : Int))) false (b.Stock.length : Int) _ (fun k i hi hP => ?_) (fun k i hi hP => ?_) (fun k => ?_) (by omega)]
    · refine peelQ fun h9 => ?_
      rw [loop_allg (fun k i => book_Right.l2 c b k i) b.Orders.length (fun i => ordFor c b (rd b.Orders (i : Int))) false (b.Orders.length : Int) _ (fun k i hi hP => ?_) (fun k i hi hP => ?_) (fun k => ?_) (by omega)]
      · refine peelQ fun h10 => ?_
        rw [prices_l0 _ (by omega), Option.bind_some, Bool.not_not]
      · have e1 := wsucc (i := i) (by omega)
        simp only [book_Right.l2, e1, book_Acc_eq hb, Option.bind_some]
        rw [if_pos (by omega), if_pos (by omega), if_neg (fun h => h hP.1), if_neg (by have := hP.2; omega)]
      · have e1 := wsucc (i := i) (by omega)
        simp only [book_Right.l2, e1, book_Acc_eq hb, Option.bind_some]
        rw [if_pos (by omega), if_pos (by omega)]
        refine ifr (fun _ => rfl) fun q1 => ifr (fun _ => rfl) fun q2 => absurd ⟨Classical.not_not.1 q1, by omega⟩ hP
      · simp only [book_Right.l2]; rw [if_neg (by omega)]
    · have e1 := wsucc (i := i) (by omega)
      simp only [book_Right.l1, e1, book_Acc_eq hb, Option.bind_some]
      rw [if_pos (by omega), if_pos (by omega)]
      refine ifr (fun q => ?_) (fun q => ?_)
      · rw [if_neg (fun h => h (hP.1.resolve_left q)), if_neg (by have := hP.2; omega)]
      · rw [if_neg (by have := hP.2; omega)]
    · have e1 := wsucc (i := i) (by omega)
      simp only [book_Right.l1, e1, book_Acc_eq hb, Option.bind_some]
      rw [if_pos (by omega), if_pos (by omega)]
      refine ifr (fun q => ?_) (fun q => ?_)
      · exact ifr (fun _ => rfl) fun q1 => ifr (fun _ => rfl) fun q2 => absurd ⟨.inr (Classical.not_not.1 q1), by omega⟩ hP
      · exact ifr (fun _ => rfl) fun q2 => absurd ⟨.inl (Classical.not_not.1 q), by omega⟩ hP
    · simp only [book_Right.l1]; rw [if_neg (by omega)]
  · have e1 := wsucc (i := i) (by omega)
    simp only [book_Right.l0, e1, book_Acc_eq hb, roll_Status_eq _ _ (show b.Members.length < 2 ^ 59 by omega), Option.bind_some]
    rw [if_pos (by omega), if_pos (by omega)]
    obtain ⟨p1, p2⟩ := hP
    refine ifr (fun q => ?_) (fun q => ?_)
    · rw [if_neg (fun h => h (p1 q))]
    · refine ifr (fun q => ?_) (fun q => ?_)
      · rw [if_pos q, if_neg (p2 (.inl q))]
      · refine ifr (fun q => ?_) (fun q => rfl)
        rw [if_neg (p2 (.inr q))]
  · have e1 := wsucc (i := i) (by omega)
    simp only [book_Right.l0, e1, book_Acc_eq hb, roll_Status_eq _ _ (show b.Members.length < 2 ^ 59 by omega), Option.bind_some]
    rw [if_pos (by omega), if_pos (by omega)]
    unfold rowFor at hP
    refine ifr (fun q => ?_) (fun q => ?_)
    · exact ifr (fun _ => rfl) fun q1 => absurd ⟨fun _ => Classical.not_not.1 q1, fun h => by omega⟩ hP
    · refine ifr (fun q' => ?_) (fun q' => ?_)
      · rw [if_pos q']
        exact ifr (fun _ => rfl) fun q1 => absurd ⟨fun h => absurd h q, fun _ => q1⟩ hP
      · refine ifr (fun q'' => ?_) (fun q'' => ?_)
        · exact ifr (fun _ => rfl) fun q1 => absurd ⟨fun h => absurd h q, fun _ => q1⟩ hP
        · exact absurd ⟨fun h => absurd h q, fun h => by omega⟩ hP
  · simp only [book_Right.l0]; rw [if_neg (by omega)]

theorem peelN {P Q : Prop} [Decidable P] [Decidable Q] {K : Option Bool} (h : P → K = some (decide Q)) : (if ¬P then some false else K) = some (decide (P ∧ Q)) := peelP h
theorem RightBook_eq {c : api_Config} {b : api_Book} (hc : CfgL c) (hb : BookL b) : novationref15_RightBook.f c b = some (bookOk c b) := by
  obtain ⟨l1, l2, l3, l4, l5, l6, hR, hS⟩ := id hb
  unfold CfgL at hc
  have key : novationref15_RightBook.f c b = some (decide (planOk c = true ∧ rollOk b.Members b.Accs = true ∧ rowsOk b.Rows = true ∧ flatOk b.Stock = true ∧ ordersOk b.Orders = true ∧ b.Prices.length = c.Insts.length ∧ rowSum b.Rows = 0 ∧ (∀ i, i < b.Rows.length → rowFor b (rd b.Rows (i : Int))) ∧ (∀ i, i < b.Stock.length → posFor c b (rd b.Stock (i : Int))) ∧ (∀ i, i < b.Prices.length → priceOk (rd b.Prices (i : Int)) = true) ∧ (∀ i, i < b.Orders.length → ordFor c b (rd b.Orders (i : Int))))) := by
    unfold novationref15_RightBook.f
    rw [RightPlan_eq c (by omega), Option.bind_some]
    refine peel fun h1 => ?_
    rw [rRightRoll_eq _ _ (by omega) (by omega), Option.bind_some]
    refine peel fun h2 => ?_
    rw [rRows_eq _ (by omega), Option.bind_some]
    refine peel fun h3 => ?_
    rw [rFlat_eq hS (by omega), Option.bind_some]
    refine peel fun h5 => ?_
    rw [rOrders_eq _ (by omega), Option.bind_some]
    refine peel fun h6 => ?_
    simp only [Int.natCast_inj]
    refine peelP fun h7 => ?_
    rw [rTotal_eq hR (by omega), Option.bind_some, if_pos h3]
    simp only [novationref1_Sign.f, rowSum_big hR l3, if_true, Option.bind_some, cmpI_zero]
    refine peelP fun h4 => ?_
    rw [loop_allg (fun k i => novationref15_RightBook.l0 b k i) b.Rows.length (fun i => rowFor b (rd b.Rows (i : Int))) false (b.Rows.length : Int) _ (fun k i hi hP => ?_) (fun k i hi hP => ?_) (fun k => ?_) (by omega)]
    · refine peelQ fun h8 => ?_
      rw [loop_allg (fun k i => novationref15_RightBook.l1 c b k i) b.Stock.length (fun i => posFor c b (rd b.Stock (i : Int))) false (b.Stock.length : Int) _ (fun k i hi hP => ?_) (fun k i hi hP => ?_) (fun k => ?_) (by omega)]
      · refine peelQ fun h9 => ?_
        rw [loop_allg (fun k i => novationref15_RightBook.l2 b k i) b.Prices.length (fun i => priceOk (rd b.Prices (i : Int)) = true) false (b.Prices.length : Int) _ (fun k i hi hP => ?_) (fun k i hi hP => ?_) (fun k => ?_) (by omega)]
        · refine peelQ fun h10 => ?_
          rw [loop_allg (fun k i => novationref15_RightBook.l3 c b k i) b.Orders.length (fun i => ordFor c b (rd b.Orders (i : Int))) false (b.Orders.length : Int) _ (fun k i hi hP => ?_) (fun k i hi hP => ?_) (fun k => ?_) (by omega)]
          · exact if_dec _
          · have e1 := wsucc (i := i) (by omega)
            simp only [novationref15_RightBook.l3, e1, there_eq hb, Option.bind_some, decide_eq_true_eq]
            rw [if_pos (by omega), if_pos (by omega), if_neg (fun h => h (.inl hP.1)), if_neg (by have := hP.2; omega)]
          · have e1 := wsucc (i := i) (by omega)
            simp only [novationref15_RightBook.l3, e1, there_eq hb, Option.bind_some, decide_eq_true_eq]
            rw [if_pos (by omega), if_pos (by omega)]
            refine ifr (fun _ => rfl) fun q1 => ifr (fun _ => rfl) fun q2 => ?_
            have ho : orderOk (rd b.Orders (i : Int)) := by
              unfold ordersOk at h6
              simp only [Bool.and_eq_true] at h6
              exact (of_decide_eq_true h6.1 i hi).1
            unfold orderOk at ho
            exact absurd ⟨(Classical.not_not.1 q1).resolve_right (by omega), by omega⟩ hP
          · simp only [novationref15_RightBook.l3]; rw [if_neg (by omega)]
        · have e1 := wsucc (i := i) (by omega)
          simp only [novationref15_RightBook.l2, e1, rprice_eq, Option.bind_some]
          rw [if_pos (by omega), if_pos (by omega), if_neg (fun h => h hP)]
        · have e1 := wsucc (i := i) (by omega)
          simp only [novationref15_RightBook.l2, e1, rprice_eq, Option.bind_some]
          rw [if_pos (by omega), if_pos (by omega), if_pos hP]
        · simp only [novationref15_RightBook.l2]; rw [if_neg (by omega)]
      · have e1 := wsucc (i := i) (by omega)
        simp only [novationref15_RightBook.l1, e1, there_eq hb, Option.bind_some, decide_eq_true_eq]
        rw [if_pos (by omega), if_pos (by omega), if_neg (fun h => h hP.1.symm), if_neg (by have := hP.2; omega)]
      · have e1 := wsucc (i := i) (by omega)
        simp only [novationref15_RightBook.l1, e1, there_eq hb, Option.bind_some, decide_eq_true_eq]
        rw [if_pos (by omega), if_pos (by omega)]
        exact ifr (fun _ => rfl) fun q1 => ifr (fun _ => rfl) fun q2 => absurd ⟨(Classical.not_not.1 q1).symm, by omega⟩ hP
      · simp only [novationref15_RightBook.l1]; rw [if_neg (by omega)]
    · have e1 := wsucc (i := i) (by omega)
      simp only [novationref15_RightBook.l0, e1, there_eq hb, rStatus_eq _ _ (show b.Members.length < 2 ^ 59 by omega), Option.bind_some, decide_eq_true_eq]
      rw [if_pos (by omega), if_pos (by omega)]
      obtain ⟨p1, p2⟩ := hP
      refine ifr (fun q => ?_) (fun q => ?_)
      · rw [if_neg (fun h => h (.inl (p1 q))), if_neg (by omega), if_neg (by omega)]
      · refine ifr (fun q => ?_) (fun q => ?_)
        · rw [if_neg (p2 (.inl q))]
        · refine ifr (fun q => ?_) (fun q => rfl)
          rw [if_neg (p2 (.inr q))]
    · have e1 := wsucc (i := i) (by omega)
      simp only [novationref15_RightBook.l0, e1, there_eq hb, rStatus_eq _ _ (show b.Members.length < 2 ^ 59 by omega), Option.bind_some, decide_eq_true_eq]
      rw [if_pos (by omega), if_pos (by omega)]
      have hk : keyOk (rd b.Rows (i : Int)).Kind (rd b.Rows (i : Int)).N := (of_decide_eq_true h3 i hi).1
      unfold keyOk at hk
      unfold rowFor at hP
      refine ifr (fun q => ?_) (fun q => ?_)
      · refine ifr (fun _ => rfl) fun q1 => absurd ⟨fun _ => (Classical.not_not.1 q1).resolve_right (by omega), fun h => by omega⟩ hP
      · refine ifr (fun q' => ?_) (fun q' => ?_)
        · exact ifr (fun _ => rfl) fun q1 => absurd ⟨fun h => absurd h q, fun _ => q1⟩ hP
        · refine ifr (fun q'' => ?_) (fun q'' => ?_)
          · exact ifr (fun _ => rfl) fun q1 => absurd ⟨fun h => absurd h q, fun _ => q1⟩ hP
          · exact absurd ⟨fun h => absurd h q, fun h => by omega⟩ hP
    · simp only [novationref15_RightBook.l0]; rw [if_neg (by omega)]
  rw [key]
  unfold bookOk inBook
  refine congrArg some (decide_eq_decide.2 ?_)
  constructor
  · rintro ⟨h1, h2, h3, h4, h5, h6, h7, h8, h9, h10, h11⟩
    exact ⟨h1, h2, h3, h7, h4, h5, h6, h8, h9, h11, h10⟩
  · rintro ⟨h1, h2, h3, h4, h5, h6, h7, h8, h9, h10, h11⟩
    exact ⟨h1, h2, h3, h5, h6, h7, h4, h8, h9, h11, h10⟩
end Go.Ax

/- RankAll: the program's answers and the reference's are the same ones. -/
set_option linter.unusedVariables false
set_option linter.unusedSimpArgs false
set_option maxRecDepth 100000
set_option maxHeartbeats 4000000
namespace Go.Ax
open Go
/-- A member's class by deeds. -/
def classOf (d : List api_Deed) (m : Int) : Int := match d.find? (fun x => decide (x.Member = m)) with | some x => x.Class | none => 1
def classR (d : List api_Deed) (m : Int) : Int := if deedsOk d = true then classOf d m else 0
theorem rank_Class_eq (d : List api_Deed) (m : Int) (hl : d.length < 2 ^ 59) : rank_Class.f d m = some (classR d m) := by
  have h := loop_find1 (fun k i => rank_Class.l0 d m k i) d (fun x => decide (x.Member = m)) (fun x => x.Class) (d.length : Int) (fun k i hi => ?_) (fun k => ?_) hl
  · unfold rank_Class.f classR classOf
    rw [rank_Right_eq d hl, h]
    simp only [Option.bind_some]
    by_cases hm : deedsOk d = true
    · rw [if_neg (by simp [hm]), if_pos hm]
      cases d.find? (fun x => decide (x.Member = m)) <;> rfl
    · rw [if_pos hm, if_neg hm]
  · simp only [rank_Class.l0, wsucc (i := i) (by omega), decide_eq_true_eq]
    rw [if_pos (by omega), if_pos (by omega)]
  · simp only [rank_Class.l0]; rw [if_neg (by omega)]
theorem rClass_eq (d : List api_Deed) (m : Int) (hl : d.length < 2 ^ 59) : novationref26_Class.f d m = some (classR d m) := by
  have h := loop_find1 (fun k i => novationref26_Class.l0 d m k i) d (fun x => decide (x.Member = m)) (fun x => x.Class) (d.length : Int) (fun k i hi => ?_) (fun k => ?_) hl
  · unfold novationref26_Class.f classR classOf
    rw [RightDeeds_eq d hl, h]
    simp only [Option.bind_some]
    by_cases hm : deedsOk d = true
    · rw [if_neg (by simp [hm]), if_pos hm]
      cases d.find? (fun x => decide (x.Member = m)) <;> rfl
    · rw [if_pos hm, if_neg hm]
  · simp only [novationref26_Class.l0, wsucc (i := i) (by omega), decide_eq_true_eq]
    rw [if_pos (by omega), if_pos (by omega)]
  · simp only [novationref26_Class.l0]; rw [if_neg (by omega)]
/-- What a bid makes of its member. -/
def bidK (lots : List api_Lot) (x : api_Bid) : Int := if (lotOf lots x.Lot).2 = true ∧ x.Price ≥ (lotOf lots x.Lot).1.Ref then 3 else 2
def stepK (m : Int) (lots : List api_Lot) (t : Int) (x : api_Bid) : Int := if x.Member = m then (if bidK lots x > t then bidK lots x else t) else t
theorem stepK_at {m : Int} {lots : List api_Lot} {t : Int} {x : api_Bid} (h : x.Member = m) : stepK m lots t x = if bidK lots x > t then bidK lots x else t := by unfold stepK; rw [if_pos h]
theorem stepK_no {m : Int} {lots : List api_Lot} {t : Int} {x : api_Bid} (h : ¬x.Member = m) : stepK m lots t x = t := by unfold stepK; rw [if_neg h]
theorem bidK_3 {lots : List api_Lot} {x : api_Bid} (h1 : (lotOf lots x.Lot).2 = true) (h2 : x.Price ≥ (lotOf lots x.Lot).1.Ref) : bidK lots x = 3 := by unfold bidK; rw [if_pos ⟨h1, h2⟩]
theorem bidK_2 {lots : List api_Lot} {x : api_Bid} (h : ¬((lotOf lots x.Lot).2 = true ∧ x.Price ≥ (lotOf lots x.Lot).1.Ref)) : bidK lots x = 2 := by unfold bidK; rw [if_neg h]
theorem bidK_le (lots : List api_Lot) (x : api_Bid) : bidK lots x = 2 ∨ bidK lots x = 3 := by unfold bidK; split <;> simp
/-- What a member did. -/
def didOf (m : Int) (lots : List api_Lot) (l : List api_Bid) : Int := if lots.any (fun x => decide (x.State = 2 ∧ x.Winner = m)) = true then 4 else l.foldl (stepK m lots) 1
theorem stepK_le {m : Int} {lots : List api_Lot} {t : Int} (h : 1 ≤ t ∧ t ≤ 3) (x : api_Bid) : 1 ≤ stepK m lots t x ∧ stepK m lots t x ≤ 3 := by
  unfold stepK
  have := bidK_le lots x
  split
  · split <;> omega
  · exact h
theorem rank_done_eq (m : Int) {lots : List api_Lot} {l : List api_Bid} (hL : LotsL lots) (hl : l.length < 2 ^ 32) : rank_done.f m lots l = some (didOf m lots l) := by
  have h1 := loop_find (fun k i => rank_done.l0 m lots k i) lots.length (fun i => decide ((rd lots (i : Int)).State = 2 ∧ (rd lots (i : Int)).Winner = m)) (fun _ => 4) (lots.length : Int) (fun k i hi hp => ?_) (fun k i hi hp => ?_) (fun k => ?_) (by have := hL.1; omega)
  · have h2 := loop_sum (fun k s i => rank_done.l1 m lots l k s i) l (stepK m lots) (fun i s => 1 ≤ s ∧ s ≤ 3) 1 (by omega) (fun k i s hi hb e => ?_) (fun k s => ?_) (by omega)
    · unfold rank_done.f didOf
      rw [h1, h2]
      by_cases ha : lots.any (fun x => decide (x.State = 2 ∧ x.Winner = m)) = true
      · rw [if_pos ha]
        obtain ⟨j, hj, hp⟩ := (any_rd lots _).1 ha
        cases e : (List.range lots.length).find? (fun i : Nat => decide ((rd lots (i : Int)).State = 2 ∧ (rd lots (i : Int)).Winner = m)) with
        | none =>
          have := List.find?_eq_none.1 e j (List.mem_range.2 hj)
          exact absurd hp this
        | some i => rfl
      · rw [if_neg ha]
        cases e : (List.range lots.length).find? (fun i : Nat => decide ((rd lots (i : Int)).State = 2 ∧ (rd lots (i : Int)).Winner = m)) with
        | none => rfl
        | some i =>
          have h1 := List.find?_some e
          have h3 := List.mem_range.1 (List.mem_of_find?_eq_some e)
          exact absurd ((any_rd lots _).2 ⟨i, h3, h1⟩) ha
    · refine ⟨?_, stepK_le hb _⟩
      simp only [rank_done.l1, wsucc (i := i) (by omega), lot_Find_eq _ _ hL, Option.bind_some]
      rw [if_pos (by omega), if_pos (by omega)]
      by_cases q1 : (rd l (i : Int)).Member = m
      · rw [stepK_at q1, if_neg (fun h => h q1)]
        by_cases q2 : (lotOf lots (rd l (i : Int)).Lot).2 = true
        · by_cases q3 : (rd l (i : Int)).Price ≥ (lotOf lots (rd l (i : Int)).Lot).1.Ref
          · rw [bidK_3 q2 q3, if_pos q2, if_pos q3, show (if (3 : Int) > s then 3 else s) = 3 by split <;> omega]
          · rw [bidK_2 (fun h => q3 h.2), if_pos q2, if_neg q3]
        · rw [bidK_2 (fun h => q2 h.1), if_neg q2]
      · rw [stepK_no q1, if_pos q1]
    · simp only [rank_done.l1]; rw [if_neg (by omega)]
  · have hp := of_decide_eq_false hp
    simp only [rank_done.l0, wsucc (i := i) (by have := hL.1; omega)]
    rw [if_pos (by omega), if_pos (by omega)]
    repeat' (first | with_reducible rfl | (exfalso; omega) | refine ifr (fun _ => ?_) (fun _ => ?_))
  · have hp := of_decide_eq_true hp
    simp only [rank_done.l0, wsucc (i := i) (by have := hL.1; omega)]
    rw [if_pos (by omega), if_pos (by omega), if_pos hp.1, if_pos hp.2]
  · simp only [rank_done.l0]; rw [if_neg (by omega)]
theorem foldl_win (m : Int) (lots : List api_Lot) (t : Int) : lots.foldl (fun t x => if x.State = 2 ∧ x.Winner = m then 4 else t) t = if lots.any (fun x => decide (x.State = 2 ∧ x.Winner = m)) = true then 4 else t := by
  induction lots generalizing t with
  | nil => simp
  | cons x l ih =>
    rw [List.foldl_cons, ih, List.any_cons]
    by_cases h : x.State = 2 ∧ x.Winner = m <;> simp [h]
theorem rclass_eq (m : Int) {lots : List api_Lot} {l : List api_Bid} (hL : lots.length < 2 ^ 32) (hl : l.length < 2 ^ 32) : novationref26_class.f m lots l = some (didOf m lots l) := by
  have h2 := loop_sum (fun k s i => novationref26_class.l0 m lots l k s i) l (stepK m lots) (fun i s => 1 ≤ s ∧ s ≤ 3) 1 (by omega) (fun k i s hi hb e => ?_) (fun k s => ?_) (by omega)
  · have h1 := loop_sum (fun k s i => novationref26_class.l1 m lots k s i) lots (fun t x => if x.State = 2 ∧ x.Winner = m then 4 else t) (fun _ _ => True) (l.foldl (stepK m lots) 1) trivial (fun k i s hi hb e => ?_) (fun k s => ?_) (by omega)
    · unfold novationref26_class.f didOf
      rw [h2, Option.bind_some]
      simp only
      rw [h1, Option.bind_some]
      simp only
      rw [foldl_win]
    · refine ⟨?_, trivial⟩
      simp only [novationref26_class.l1, wsucc (i := i) (by omega)]
      rw [if_pos (by omega), if_pos (by omega)]
      by_cases q1 : (rd lots (i : Int)).State = 2
      · by_cases q2 : (rd lots (i : Int)).Winner = m
        · rw [if_pos q1, if_pos q2, if_pos ⟨q1, q2⟩]
        · rw [if_pos q1, if_neg q2, if_neg (fun h => q2 h.2)]
      · rw [if_neg q1, if_neg (fun h => q1 h.1)]
    · simp only [novationref26_class.l1]; rw [if_neg (by omega)]
  · refine ⟨?_, stepK_le hb _⟩
    simp only [novationref26_class.l0, wsucc (i := i) (by omega), FindLot_eq _ _ (show lots.length < 2 ^ 59 by omega), Option.bind_some]
    rw [if_pos (by omega), if_pos (by omega)]
    by_cases q1 : (rd l (i : Int)).Member = m
    · rw [stepK_at q1, if_neg (fun h => h q1)]
      by_cases q2 : (lotOf lots (rd l (i : Int)).Lot).2 = true
      · by_cases q3 : (rd l (i : Int)).Price ≥ (lotOf lots (rd l (i : Int)).Lot).1.Ref
        · rw [bidK_3 q2 q3, if_pos q2, if_pos q3]
        · rw [bidK_2 (fun h => q3 h.2), if_pos q2, if_neg q3]
      · rw [bidK_2 (fun h => q2 h.1), if_neg q2]
    · rw [stepK_no q1, if_pos q1]
  · simp only [novationref26_class.l0]; rw [if_neg (by omega)]
/-- Whose deed is told. -/
def told26 (d : List api_Deed) (must : List Int) (l : List api_Bid) (m : Int) : Bool := d.any (fun x => decide (x.Member = m)) || (must.any (fun x => decide (x = m)) || l.any (fun x => decide (x.Member = m)))
def maxI (a b : Int) : Int := if b > a then b else a
def deedOf (d : List api_Deed) (must : List Int) (lots : List api_Lot) (l : List api_Bid) (m : Int) : List api_Deed := if told26 d must l m = true then [⟨m, maxI (didOf m lots l) (classOf d m)⟩] else []
def twelve : List Int := [1, 2, 3, 4, 5, 6, 7, 8, 9, 10, 11, 12]
theorem twelve_at {i : Nat} (h : i < 12) : rd twelve (i : Int) = (i : Int) + 1 := by
  have : ∀ x : Fin 12, rd twelve (x.val : Int) = (x.val : Int) + 1 := by decide
  exact this ⟨i, h⟩
theorem deedOf_len (d : List api_Deed) (must : List Int) (lots : List api_Lot) (l : List api_Bid) (s : List Int) : (s.flatMap (deedOf d must lots l)).length ≤ s.length := by
  induction s with
  | nil => simp
  | cons x s ih =>
    rw [List.flatMap_cons, List.length_append, List.length_cons]
    have : (deedOf d must lots l x).length ≤ 1 := by unfold deedOf; split <;> simp
    omega
theorem idx_lt {r : Int} {b : Bool} (h : 0 ≤ r ↔ b = true) : (r < 0) = ¬(b = true) := by
  apply propext
  rw [← h]; omega
theorem index1 (d : List api_Deed) (m : Int) (hl : d.length < 2 ^ 59) : ∃ r, slices_IndexFunc_api_Deed_rank_Deeds_1.f d m = some r ∧ (0 ≤ r ↔ d.any (fun x => decide (x.Member = m)) = true) := by
  unfold slices_IndexFunc_api_Deed_rank_Deeds_1.f
  refine index_gen (fun k i => slices_IndexFunc_api_Deed_rank_Deeds_1.l0 d m k i) d (fun x => decide (x.Member = m)) (fun k i hi => ?_) (fun k => ?_) hl
  · simp only [slices_IndexFunc_api_Deed_rank_Deeds_1.l0, wsucc (i := i) (by omega), rank_Deeds_1.f, Option.bind_some, beq_iff_eq, decide_eq_true_eq]
    rw [if_pos (by omega), if_pos (by omega)]
  · simp only [slices_IndexFunc_api_Deed_rank_Deeds_1.l0]; rw [if_neg (by omega)]
theorem contains1 (l : List Int) (m : Int) (hl : l.length < 2 ^ 59) : slices_Contains_int.f l m = some (l.any (fun x => decide (x = m))) := by
  unfold slices_Contains_int.f slices_Index_int.f
  have hx := index_gen (fun k i => slices_Index_int.l0 l m k i) l (fun x => decide (x = m)) (fun k i hi => ?_) (fun k => ?_) hl
  · obtain ⟨r, h1, h2⟩ := hx
    rw [h1]
    simp only [Option.bind_some]
    by_cases h : 0 ≤ r
    · rw [decide_eq_true h, h2.1 h]
    · rw [decide_eq_false h, Bool.eq_false_iff.2 (fun hh => h (h2.2 hh))]
  · simp only [slices_Index_int.l0, wsucc (i := i) (by omega), decide_eq_true_eq]
    rw [if_pos (by omega), if_pos (by omega)]
    by_cases q : rd l (i : Int) = m
    · rw [if_pos q.symm, if_pos q]
    · rw [if_neg (fun h => q h.symm), if_neg q]
  · simp only [slices_Index_int.l0]; rw [if_neg (by omega)]
theorem contains2 (l : List api_Bid) (m : Int) (hl : l.length < 2 ^ 59) : slices_ContainsFunc_api_Bid_rank_Deeds_2.f l m = some (l.any (fun x => decide (x.Member = m))) := by
  unfold slices_ContainsFunc_api_Bid_rank_Deeds_2.f slices_IndexFunc_api_Bid_rank_Deeds_2.f
  have hx := index_gen (fun k i => slices_IndexFunc_api_Bid_rank_Deeds_2.l0 l m k i) l (fun x => decide (x.Member = m)) (fun k i hi => ?_) (fun k => ?_) hl
  · obtain ⟨r, h1, h2⟩ := hx
    rw [h1]
    simp only [Option.bind_some]
    by_cases h : 0 ≤ r
    · rw [decide_eq_true h, h2.1 h]
    · rw [decide_eq_false h, Bool.eq_false_iff.2 (fun hh => h (h2.2 hh))]
  · simp only [slices_IndexFunc_api_Bid_rank_Deeds_2.l0, wsucc (i := i) (by omega), rank_Deeds_2.f, Option.bind_some, beq_iff_eq, decide_eq_true_eq]
    rw [if_pos (by omega), if_pos (by omega)]
  · simp only [slices_IndexFunc_api_Bid_rank_Deeds_2.l0]; rw [if_neg (by omega)]
/-- What comes of deeds. -/
def deedsOf (c : api_Config) (d : List api_Deed) (must : List Int) (lots : List api_Lot) (l : List api_Bid) : List api_Deed × Int :=
  if deedsOk d = true ∧ lotsOk c lots = true ∧ bidsOk l = true ∧ riseOk must = true then (twelve.flatMap (deedOf d must lots l), 0) else ([], 1)
theorem rank_Deeds_eq {c : api_Config} {d : List api_Deed} {must : List Int} {lots : List api_Lot} {l : List api_Bid} (hc : CfgL c) (hd : d.length < 2 ^ 32) (hm : must.length < 2 ^ 32) (hL : LotsL lots) (hl : l.length < 2 ^ 32) :
    rank_Deeds.f c d must lots l = some (deedsOf c d must lots l) := by
  unfold CfgL at hc
  unfold rank_Deeds.f deedsOf
  rw [rank_Right_eq d (by omega), lot_Right_eq c lots (by omega) hL, bid_Right_eq l (by omega), rank_Rise_eq must (by omega)]
  simp only [Option.bind_some]
  by_cases h1 : deedsOk d = true
  · by_cases h2 : lotsOk c lots = true
    · by_cases h3 : bidsOk l = true
      · by_cases h4 : riseOk must = true
        · simp only [h1, h2, h3, h4, not_true_eq_false, if_false, and_self, if_true]
          have h := loop_gatherE (fun k s i => rank_Deeds.l0 d must lots l k s (i + 1)) twelve (deedOf d must lots l) 13 (fun k i s hi e => ?_) (fun k s => ?_) (by decide)
          · rw [show (0 : Int) + 1 = 1 from rfl] at h
            rw [h]; rfl
          · have hi : i < 12 := hi
            have hlen : s.length ≤ 12 := by
              rw [e]; refine Nat.le_trans (deedOf_len d must lots l _) ?_
              rw [List.length_take]; exact Nat.le_trans (Nat.min_le_right _ _) (by decide)
            rw [twelve_at hi]
            obtain ⟨r, g1, g2⟩ := index1 d ((i : Int) + 1) (by omega)
            have e1 : IntKind.i64.wrap ((i : Int) + 1 + 1) = ((i + 1 : Nat) : Int) + 1 := by rw [i64_wrap _ (by omega) (by omega)]; omega
            simp only [rank_Deeds.l0, e1, g1, contains1 must _ (show must.length < 2 ^ 59 by omega), contains2 l _ (show l.length < 2 ^ 59 by omega), rank_done_eq _ hL hl, rank_Class_eq d _ (show d.length < 2 ^ 59 by omega), Option.bind_some, idx_lt g2, classR, h1, if_true]
            rw [if_pos (by omega)]
            unfold deedOf told26 maxI
            cases q1 : d.any (fun x => decide (x.Member = (i : Int) + 1)) <;> cases q2 : must.any (fun x => decide (x = (i : Int) + 1)) <;> cases q3 : l.any (fun x => decide (x.Member = (i : Int) + 1)) <;> simp [show s.length + 1 ≤ 100000000000 by omega]
          · simp only [rank_Deeds.l0]; rw [if_neg (by decide)]; rfl
        · simp [h1, h2, h3, h4]
      · simp [h1, h2, h3]
    · simp [h1, h2]
  · simp [h1]
end Go.Ax

/- RankAll: what is told is true. -/
set_option linter.unusedVariables false
set_option linter.unusedSimpArgs false
set_option maxRecDepth 100000
set_option maxHeartbeats 4000000
namespace Go.Ax
open Go
def wasOf (d : List api_Deed) (m : Int) : Int × Bool := if d.any (fun x => decide (x.Member = m)) = true then (classOf d m, true) else (0, false)
theorem was_v {d : List api_Deed} (h : deedsOk d = true) (m : Int) : ∀ y ∈ d, decide (y.Member = m) = true → y.Class = classOf d m := by
  intro y hy hp
  have hp := of_decide_eq_true hp
  unfold classOf
  cases e : d.find? (fun x => decide (x.Member = m)) with
  | none =>
    have := List.find?_eq_none.1 e y hy
    exact absurd (decide_eq_true hp) this
  | some x =>
    have h1 := List.mem_of_find?_eq_some e
    have h2 := of_decide_eq_true (List.find?_some (p := fun x : api_Deed => decide (x.Member = m)) e)
    rw [deeds_one h hy h1 (hp.trans h2.symm)]
theorem rDeeds_l1 {d : List api_Deed} (h : deedsOk d = true) (m : Int) (hl : d.length < 2 ^ 32) : novationref26_Deeds.l1 d m FUEL 0 false 0 = some ((wasOf d m).1, (wasOf d m).2, (d.length : Int)) := by
  have hx := loop_sum (fun k (s : Int × Bool) i => (novationref26_Deeds.l1 d m k s.1 s.2 i).map fun r => ((r.1, r.2.1), r.2.2)) d (fun t x => if decide (x.Member = m) = true then (x.Class, true) else t) (fun _ _ => True) (0, false) trivial (fun k i s hi hb e => ?_) (fun k s => ?_) (by omega)
  · rw [fold_last (fun x : api_Deed => decide (x.Member = m)) (·.Class) (classOf d m) d (was_v h m)] at hx
    obtain ⟨r, h1, h2⟩ := Option.map_eq_some_iff.1 hx
    obtain ⟨r1, r2, r3⟩ := r
    simp only [Prod.mk.injEq] at h2
    rw [h1]
    unfold wasOf
    have e1 := h2.1
    rw [← h2.2, ← e1]
  · refine ⟨?_, trivial⟩
    simp only [novationref26_Deeds.l1, wsucc (i := i) (by omega), decide_eq_true_eq]
    rw [if_pos (by omega), if_pos (by omega)]
    by_cases q : (rd d (i : Int)).Member = m
    · rw [if_pos q, if_pos q]
    · rw [if_neg q, if_neg q]
  · simp only [novationref26_Deeds.l1]; rw [if_neg (by omega)]; rfl
theorem rDeeds_l2 (l : List Int) (m : Int) (b : Bool) (hl : l.length < 2 ^ 32) : novationref26_Deeds.l2 l m FUEL b 0 = some (b || l.any (fun x => decide (x = m)), (l.length : Int)) := by
  have hx := loop_sum (fun k s i => novationref26_Deeds.l2 l m k s i) l (fun t x => t || decide (x = m)) (fun _ _ => True) b trivial (fun k i s hi hb e => ?_) (fun k s => ?_) (by omega)
  · rw [hx, foldl_or]
  · refine ⟨?_, trivial⟩
    simp only [novationref26_Deeds.l2, wsucc (i := i) (by omega)]
    rw [if_pos (by omega)]
    cases s with
    | true => rw [if_pos rfl, Bool.true_or]
    | false => rw [if_neg (by simp), if_pos (by omega), Bool.false_or, Bool.beq_eq_decide_eq]
  · simp only [novationref26_Deeds.l2]; rw [if_neg (by omega)]
theorem rDeeds_l3 (l : List api_Bid) (m : Int) (b : Bool) (hl : l.length < 2 ^ 32) : novationref26_Deeds.l3 l m FUEL b 0 = some (b || l.any (fun x => decide (x.Member = m)), (l.length : Int)) := by
  have hx := loop_sum (fun k s i => novationref26_Deeds.l3 l m k s i) l (fun t x => t || decide (x.Member = m)) (fun _ _ => True) b trivial (fun k i s hi hb e => ?_) (fun k s => ?_) (by omega)
  · rw [hx, foldl_or]
  · refine ⟨?_, trivial⟩
    simp only [novationref26_Deeds.l3, wsucc (i := i) (by omega)]
    rw [if_pos (by omega)]
    cases s with
    | true => rw [if_pos rfl, Bool.true_or]
    | false => rw [if_neg (by simp), if_pos (by omega), Bool.false_or, Bool.beq_eq_decide_eq]
  · simp only [novationref26_Deeds.l3]; rw [if_neg (by omega)]
theorem didOf_ge {m : Int} {lots : List api_Lot} {l : List api_Bid} : 1 ≤ didOf m lots l := by
  unfold didOf
  split
  · decide
  · have : ∀ (l : List api_Bid) (t : Int), 1 ≤ t ∧ t ≤ 3 → 1 ≤ l.foldl (stepK m lots) t ∧ l.foldl (stepK m lots) t ≤ 3 := by
      intro l
      induction l with
      | nil => intro t h; exact h
      | cons x l ih => intro t h; rw [List.foldl_cons]; exact ih _ (stepK_le h x)
    exact (this l 1 (by omega)).1
theorem max_same {d : List api_Deed} (m : Int) {lots : List api_Lot} {l : List api_Bid} : (if didOf m lots l > (wasOf d m).1 then didOf m lots l else (wasOf d m).1) = maxI (didOf m lots l) (classOf d m) := by
  have h := didOf_ge (m := m) (lots := lots) (l := l)
  unfold wasOf maxI
  by_cases ha : d.any (fun x => decide (x.Member = m)) = true
  · rw [if_pos ha]
    simp only
    repeat' split
    all_goals omega
  · rw [if_neg ha]
    have : classOf d m = 1 := by
      unfold classOf
      cases e : d.find? (fun x => decide (x.Member = m)) with
      | none => rfl
      | some x => exact absurd (List.any_eq_true.2 ⟨x, List.mem_of_find?_eq_some e, List.find?_some (p := fun x : api_Deed => decide (x.Member = m)) e⟩) ha
    rw [this]
    simp only
    repeat' split
    all_goals omega
theorem rDeeds_eq {c : api_Config} {d : List api_Deed} {must : List Int} {lots : List api_Lot} {l : List api_Bid} (hc : CfgL c) (hd : d.length < 2 ^ 32) (hm : must.length < 2 ^ 32) (hL : LotsL lots) (hl : l.length < 2 ^ 32) :
    novationref26_Deeds.f c d must lots l = some (deedsOf c d must lots l) := by
  unfold CfgL at hc
  unfold novationref26_Deeds.f deedsOf
  rw [RightDeeds_eq d (by omega), novationref20_RightLots_eq c lots (by omega) hL, RightBids_eq l (by omega), Rising_eq must (by omega)]
  simp only [Option.bind_some]
  by_cases h1 : deedsOk d = true
  · by_cases h2 : lotsOk c lots = true
    · by_cases h3 : bidsOk l = true
      · by_cases h4 : riseOk must = true
        · simp only [h1, h2, h3, h4, not_true_eq_false, if_false, and_self, if_true]
          have h := loop_gatherE (fun k s i => novationref26_Deeds.l0 d must lots l k s (i + 1)) twelve (deedOf d must lots l) 13 (fun k i s hi e => ?_) (fun k s => ?_) (by decide)
          · rw [show (0 : Int) + 1 = 1 from rfl] at h
            rw [h]; rfl
          · have hi : i < 12 := hi
            have hlen : s.length ≤ 12 := by
              rw [e]; refine Nat.le_trans (deedOf_len d must lots l _) ?_
              rw [List.length_take]; exact Nat.le_trans (Nat.min_le_right _ _) (by decide)
            rw [twelve_at hi]
            have e1 : IntKind.i64.wrap ((i : Int) + 1 + 1) = ((i + 1 : Nat) : Int) + 1 := by rw [i64_wrap _ (by omega) (by omega)]; omega
            simp only [novationref26_Deeds.l0, e1, rDeeds_l1 h1 _ hd, rDeeds_l2 must _ _ hm, rDeeds_l3 l _ _ hl, rclass_eq _ hL.1 hl, Option.bind_some, max_same]
            rw [if_pos (by omega)]
            have hw : (wasOf d ((i : Int) + 1)).2 = d.any (fun x => decide (x.Member = (i : Int) + 1)) := by
              unfold wasOf
              cases d.any (fun x => decide (x.Member = (i : Int) + 1)) <;> rfl
            rw [hw]
            unfold deedOf told26
            rw [Bool.or_assoc]
            split
            · rw [if_pos (by omega)]
            · rw [List.append_nil]
          · simp only [novationref26_Deeds.l0]; rw [if_neg (by decide)]; rfl
        · simp [h1, h2, h3, h4]
      · simp [h1, h2, h3]
    · simp [h1, h2]
  · simp [h1]
/-- Who bears in a class. -/
def bears (b : api_Book) (d : List api_Deed) (out k : Int) (x : api_Member) : Prop := (x.Status = 1 ∨ x.Status = 2) ∧ ¬ x.Id = out ∧ getR b.Rows 6 x.Id > 0 ∧ classR d x.Id = k
instance (b : api_Book) (d : List api_Deed) (out k : Int) : DecidablePred (bears b d out k) := fun x => by unfold bears; infer_instance
def trancheOf (c : api_Config) (b : api_Book) (d : List api_Deed) (out k : Int) : List Int × Int := if bookOk c b = true ∧ deedsOk d = true then (b.Members.flatMap (fun x => if bears b d out k x then [x.Id] else []), 0) else ([], 1)
theorem live_eq (s : Int) : standing_Live.f s = some (decide (s = 1 ∨ s = 2)) := by
  unfold standing_Live.f
  by_cases h : s = 1
  · simp [h]
  · by_cases h2 : s = 2 <;> simp [h, h2]
theorem rLive_eq (s : Int) : novationref10_Live.f s = some (decide (s = 1 ∨ s = 2)) := live_eq s
theorem rank_Tranche_eq {c : api_Config} {b : api_Book} {d : List api_Deed} (out k : Int) (hc : CfgL c) (hb : BookL b) (hd : d.length < 2 ^ 32) : rank_Tranche.f c b d out k = some (trancheOf c b d out k) := by
  unfold rank_Tranche.f trancheOf
  rw [book_Right_eq hc hb, rank_Right_eq d (by omega)]
  obtain ⟨l1, l2, l3, l4, l5, l6, hR, hS⟩ := hb
  have h := loop_gather (fun q s i => rank_Tranche.l0 b d out k q s i) b.Members (fun x => if bears b d out k x then [x.Id] else []) (fun q i s hi e => ?_) (fun q s => ?_) (by omega)
  · rw [h]
    simp only [Option.bind_some]
    by_cases h1 : bookOk c b = true
    · by_cases h2 : deedsOk d = true <;> simp [h1, h2]
    · simp [h1]
  · have hlen : s.length ≤ i := by rw [e]; exact Nat.le_trans (flatMap_if_len (bears b d out k) (·.Id) _) (by rw [List.length_take]; omega)
    simp only [rank_Tranche.l0, wsucc (i := i) (by omega), live_eq, rank_Class_eq d _ (show d.length < 2 ^ 59 by omega), ledger_Get_eq b.Rows _ _ (show b.Rows.length < 2 ^ 59 by omega), Option.bind_some, decide_eq_true_eq]
    rw [if_pos (by omega), if_pos (by omega)]
    by_cases q1 : (rd b.Members (i : Int)).Id = out
    · rw [if_neg (fun h => h q1), if_neg (fun h : bears b d out k _ => h.2.1 q1), List.append_nil]
    · by_cases q2 : (rd b.Members (i : Int)).Status = 1 ∨ (rd b.Members (i : Int)).Status = 2
      · by_cases q3 : classR d (rd b.Members (i : Int)).Id = k
        · by_cases q4 : getR b.Rows 6 (rd b.Members (i : Int)).Id > 0
          · rw [if_pos q1, if_pos q2, if_pos q3, if_pos q4, if_pos (by omega), if_pos (show bears b d out k _ from ⟨q2, q1, q4, q3⟩)]
          · rw [if_pos q1, if_pos q2, if_pos q3, if_neg q4, if_neg (fun h : bears b d out k _ => q4 h.2.2.1), List.append_nil]
        · rw [if_pos q1, if_pos q2, if_neg q3, if_neg (fun h : bears b d out k _ => q3 h.2.2.2), List.append_nil]
      · rw [if_pos q1, if_neg q2, if_neg (fun h : bears b d out k _ => q2 h.1), List.append_nil]
  · simp only [rank_Tranche.l0]; rw [if_neg (by omega)]
theorem rTranche_eq {c : api_Config} {b : api_Book} {d : List api_Deed} (out k : Int) (hc : CfgL c) (hb : BookL b) (hd : d.length < 2 ^ 32) : novationref26_Tranche.f c b d out k = some (trancheOf c b d out k) := by
  unfold novationref26_Tranche.f trancheOf
  rw [RightBook_eq hc hb, RightDeeds_eq d (by omega)]
  obtain ⟨l1, l2, l3, l4, l5, l6, hR, hS⟩ := hb
  have h := loop_gather (fun q s i => novationref26_Tranche.l0 b d out k q s i) b.Members (fun x => if bears b d out k x then [x.Id] else []) (fun q i s hi e => ?_) (fun q s => ?_) (by omega)
  · rw [h]
    simp only [Option.bind_some]
    by_cases h1 : bookOk c b = true
    · by_cases h2 : deedsOk d = true <;> simp [h1, h2]
    · simp [h1]
  · have hlen : s.length ≤ i := by rw [e]; exact Nat.le_trans (flatMap_if_len (bears b d out k) (·.Id) _) (by rw [List.length_take]; omega)
    simp only [novationref26_Tranche.l0, wsucc (i := i) (by omega), rLive_eq, rClass_eq d _ (show d.length < 2 ^ 59 by omega), rGet_eq b.Rows _ _ (show b.Rows.length < 2 ^ 59 by omega), Option.bind_some, decide_eq_true_eq]
    rw [if_pos (by omega), if_pos (by omega)]
    by_cases q1 : (rd b.Members (i : Int)).Id = out
    · by_cases q2 : (rd b.Members (i : Int)).Status = 1 ∨ (rd b.Members (i : Int)).Status = 2
      · rw [if_pos q2, if_neg (fun h => h q1), if_neg (fun h : bears b d out k _ => h.2.1 q1), List.append_nil]
      · rw [if_neg q2, if_neg (fun h : bears b d out k _ => q2 h.1), List.append_nil]
    · by_cases q2 : (rd b.Members (i : Int)).Status = 1 ∨ (rd b.Members (i : Int)).Status = 2
      · by_cases q4 : getR b.Rows 6 (rd b.Members (i : Int)).Id > 0
        · by_cases q3 : classR d (rd b.Members (i : Int)).Id = k
          · rw [if_pos q2, if_pos q1, if_pos q4, if_pos q3, if_pos (by omega), if_pos (show bears b d out k _ from ⟨q2, q1, q4, q3⟩)]
          · rw [if_pos q2, if_pos q1, if_pos q4, if_neg q3, if_neg (fun h : bears b d out k _ => q3 h.2.2.2), List.append_nil]
        · rw [if_pos q2, if_pos q1, if_neg q4, if_neg (fun h : bears b d out k _ => q4 h.2.2.1), List.append_nil]
      · rw [if_neg q2, if_neg (fun h : bears b d out k _ => q2 h.1), List.append_nil]
  · simp only [novationref26_Tranche.l0]; rw [if_neg (by omega)]
theorem rall_true {n : Nat} {σ : Type} (L : Nat → Int → Option (Flow σ Bool)) (e : σ) (h : ∀ k (i : Nat), i < n → L (k + 1) i = L k ((i + 1 : Nat) : Int)) (h2 : ∀ k, L (k + 1) (n : Int) = some (.out e)) (hn : n < 2 ^ 59) :
    ((L FUEL 0).bind fun f => f.go fun _ => some true) = some true := by
  rw [loop_allg L n (fun _ => True) false e _ (fun k i hi _ => h k i hi) (fun k i hi hP => absurd trivial hP) h2 hn, if_pos (fun _ _ => trivial)]
theorem rhNums_eq (l : List Int) (hl : l.length < 2 ^ 59) : novationhelp_Nums.f l l = some true := by
  unfold novationhelp_Nums.f
  rw [if_neg (fun h => h rfl)]
  refine rall_true (fun k i => novationhelp_Nums.l0 l l k i) (l.length : Int) (n := l.length) (fun k i hi => ?_) (fun k => by simp only [novationhelp_Nums.l0]; rw [if_neg (by omega)]) hl
  simp only [novationhelp_Nums.l0, wsucc (i := i) (by omega)]
  rw [if_pos (by omega), if_pos (by omega), if_pos (by omega), if_neg (fun h => h trivial)]
theorem rhDeeds_eq (l : List api_Deed) (hl : l.length < 2 ^ 59) : novationhelp_Deeds.f l l = some true := by
  unfold novationhelp_Deeds.f
  rw [if_neg (fun h => h rfl)]
  refine rall_true (fun k i => novationhelp_Deeds.l0 l l k i) (l.length : Int) (n := l.length) (fun k i hi => ?_) (fun k => by simp only [novationhelp_Deeds.l0]; rw [if_neg (by omega)]) hl
  simp only [novationhelp_Deeds.l0, wsucc (i := i) (by omega)]
  rw [if_pos (by omega), if_pos (by omega), if_pos (by omega), if_neg (by simp)]
theorem rtold_true {c : api_Config} {b : api_Book} {d : List api_Deed} {must : List Int} {lots : List api_Lot} {l : List api_Bid} (m k : Int) (hc : CfgL c) (hb : BookL b) (hd : d.length < 2 ^ 32) (hm : must.length < 2 ^ 32) (hL : LotsL lots) (hl : l.length < 2 ^ 32) :
    novationlaw26_told.f c b d must lots l m k = some true := by
  unfold novationlaw26_told.f
  rw [rank_Deeds_eq hc hd hm hL hl, rDeeds_eq hc hd hm hL hl, rank_Tranche_eq m k hc hb hd, rTranche_eq m k hc hb hd, rank_Class_eq d m (by omega), rClass_eq d m (by omega), rank_Right_eq d (by omega), RightDeeds_eq d (by omega)]
  have h1 : (deedsOf c d must lots l).1.length < 2 ^ 59 := by
    unfold deedsOf
    split
    · have := deedOf_len d must lots l twelve
      have h12 : twelve.length = 12 := rfl
      show (twelve.flatMap (deedOf d must lots l)).length < 2 ^ 59
      omega
    · simp
  have h2 : (trancheOf c b d m k).1.length < 2 ^ 59 := by
    unfold trancheOf
    split
    · have := flatMap_if_len (bears b d m k) (·.Id) b.Members
      have := hb.1
      show (b.Members.flatMap (fun x => if bears b d m k x then [x.Id] else [])).length < 2 ^ 59
      omega
    · simp
  simp only [Option.bind_some, rhDeeds_eq _ h1, rhNums_eq _ h2]
  simp
theorem rank_known : novationlaw26_known.f = some true := by decide +kernel
theorem rankAll_true {c : api_Config} {b : api_Book} {d : List api_Deed} {must : List Int} {lots : List api_Lot} {l : List api_Bid} (m k : Int) (hR : RowI b.Rows) (hS : PosI b.Stock) : novationlaw26_RankAll.f c b d must lots l m k = some true := by
  unfold novationlaw26_RankAll.f
  rw [rank_known, Option.bind_some, if_neg (by simp)]
  refine ifr (fun _ => rfl) fun h0 => ifr (fun _ => rfl) fun h1 => ifr (fun _ => rfl) fun h2 => ifr (fun _ => rfl) fun h3 => ifr (fun _ => rfl) fun h4 => ifr (fun _ => rfl) fun h5 => ifr (fun _ => rfl) fun h6 => ifr (fun _ => rfl) fun h7 => ifr (fun _ => rfl) fun h8 => ifr (fun _ => rfl) fun h9 => ifr (fun _ => rfl) fun h10 => ?_
  rw [loop_allg (fun k i => novationlaw26_RankAll.l0 lots k i) lots.length (fun i => (rd lots (i : Int)).Legs.length ≤ 12) true (lots.length : Int) _ (fun k i hi hP => ?_) (fun k i hi hP => ?_) (fun k => ?_) (by omega)]
  · refine ifr (fun hA => ?_) (fun _ => rfl)
    rw [rtold_true m k (show CfgL c by unfold CfgL; omega) ⟨by omega, by omega, by omega, by omega, by omega, by omega, hR, hS⟩ (by omega) (by omega) ⟨by omega, fun i hi => by have := hA i hi; omega⟩ (by omega), Option.bind_some]
  · simp only [novationlaw26_RankAll.l0, wsucc (i := i) (by omega)]
    rw [if_pos (by omega), if_pos (by omega), if_neg (by omega)]
  · simp only [novationlaw26_RankAll.l0, wsucc (i := i) (by omega)]
    rw [if_pos (by omega), if_pos (by omega), if_pos (by omega)]
  · simp only [novationlaw26_RankAll.l0]; rw [if_neg (by omega)]
end Go.Ax
