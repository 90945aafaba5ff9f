/- Loops of printed functions, in plain terms. -/
import Derived.Test.YtmpbhgofllbejaaGa
set_option linter.unusedVariables false
set_option linter.unusedSimpArgs false
set_option linter.unusedVariables false
set_option linter.unusedSimpArgs false
namespace Go.Ax
open Go
theorem wsucc {i : Nat} (h : i < 2 ^ 60) : IntKind.i64.wrap ((i : Int) + 1) = ((i + 1 : Nat) : Int) := by rw [i64_wrap _ (by omega) (by omega)]; omega
theorem wpred {i : Nat} (h : i < 2 ^ 60) : IntKind.i64.wrap ((i : Int) - 1) = (i : Int) - 1 := i64_wrap _ (by omega) (by omega)
theorem FUEL_big {n : Nat} (h : n < 2 ^ 59) : n < FUEL := by unfold FUEL; omega
theorem rd_nat {α : Type} [Inhabited α] (l : List α) (i : Nat) : rd l (i : Int) = l[i]?.getD default := by simp [rd]
theorem rd_get {α : Type} [Inhabited α] (l : List α) {i : Nat} (h : i < l.length) : rd l (i : Int) = l[i] := by simp [rd, h]
/-- A loop that tells r at the first bad place. -/
theorem loop_all {σ ρ : Type} (L : Nat → Int → Option (Flow σ ρ)) (n : Nat) (P : Nat → Bool) (r : ρ) (e : σ) (h0 : ∀ k (i : Nat), i < n → P i = true → L (k + 1) i = L k ((i + 1 : Nat) : Int))
    (h1 : ∀ k (i : Nat), i < n → P i = false → L (k + 1) i = some (.ret r)) (h2 : ∀ k, L (k + 1) (n : Int) = some (.out e)) (hn : n < 2 ^ 59) :
    L FUEL 0 = some (if (List.range n).all P = true then .out e else .ret r) := by
  have key : ∀ (d i k : Nat), i + d = n → d < k → L k (i : Int) = some (if (List.range' i d).all P = true then .out e else .ret r) := by
    intro d
    induction d with
    | zero =>
      intro i k hi hk
      obtain ⟨k, rfl⟩ : ∃ m, k = m + 1 := ⟨k - 1, by omega⟩
      have : i = n := by omega
      subst this
      rw [h2]; simp
    | succ d ih =>
      intro i k hi hk
      obtain ⟨k, rfl⟩ : ∃ m, k = m + 1 := ⟨k - 1, by omega⟩
      cases hp : P i with
      | true => rw [h0 k i (by omega) hp, ih (i + 1) k (by omega) (by omega), List.range'_succ, List.all_cons, hp, Bool.true_and]
      | false => rw [h1 k i (by omega) hp, List.range'_succ, List.all_cons, hp, Bool.false_and]; rfl
  have := key n 0 FUEL (by omega) (FUEL_big hn)
  rw [← List.range_eq_range'] at this
  exact this
/-- n steps. -/
def itr {σ : Type} (g : Nat → σ → σ) : Nat → σ → σ
  | 0, s => s
  | n + 1, s => g n (itr g n s)
/-- A loop that goes through to its end. -/
theorem loop_fold {σ R : Type} (L : Nat → Int → σ → Option R) (n : Nat) (g : Nat → σ → σ) (I : Nat → σ → Prop) (E : σ → R) (s0 : σ)
    (hs : ∀ k (i : Nat) s, i < n → I i s → L (k + 1) i s = L k ((i + 1 : Nat) : Int) (g i s) ∧ I (i + 1) (g i s)) (he : ∀ k s, I n s → L (k + 1) (n : Int) s = some (E s)) (h0 : I 0 s0) (hn : n < 2 ^ 59) :
    L FUEL 0 s0 = some (E (itr g n s0)) ∧ I n (itr g n s0) := by
  have inv : ∀ i, i ≤ n → I i (itr g i s0) := by
    intro i
    induction i with
    | zero => intro _; exact h0
    | succ i ih => intro hi; exact (hs 0 i _ (by omega) (ih (by omega))).2
  have key : ∀ (d i k : Nat), i + d = n → d < k → L k (i : Int) (itr g i s0) = some (E (itr g n s0)) := by
    intro d
    induction d with
    | zero =>
      intro i k hi hk
      obtain ⟨k, rfl⟩ : ∃ m, k = m + 1 := ⟨k - 1, by omega⟩
      have : i = n := by omega
      subst this
      exact he k _ (inv i (by omega))
    | succ d ih =>
      intro i k hi hk
      obtain ⟨k, rfl⟩ : ∃ m, k = m + 1 := ⟨k - 1, by omega⟩
      rw [(hs k i _ (by omega) (inv i (by omega))).1]
      exact ih (i + 1) k (by omega) (by omega)
  exact ⟨key n 0 FUEL (by omega) (FUEL_big hn), inv n (Nat.le_refl n)⟩
/-- A loop that goes through, or stops at some place with an answer. -/
theorem loop_find {σ ρ : Type} (L : Nat → Int → Option (Flow σ ρ)) (n : Nat) (P : Nat → Bool) (r : Nat → ρ) (e : σ) (h0 : ∀ k (i : Nat), i < n → P i = false → L (k + 1) i = L k ((i + 1 : Nat) : Int))
    (h1 : ∀ k (i : Nat), i < n → P i = true → L (k + 1) i = some (.ret (r i))) (h2 : ∀ k, L (k + 1) (n : Int) = some (.out e)) (hn : n < 2 ^ 59) :
    L FUEL 0 = some (match (List.range n).find? P with | some i => .ret (r i) | none => .out e) := by
  have key : ∀ (d i k : Nat), i + d = n → d < k → L k (i : Int) = some (match (List.range' i d).find? P with | some i => .ret (r i) | none => .out e) := by
    intro d
    induction d with
    | zero =>
      intro i k hi hk
      obtain ⟨k, rfl⟩ : ∃ m, k = m + 1 := ⟨k - 1, by omega⟩
      have : i = n := by omega
      subst this
      rw [h2]; simp
    | succ d ih =>
      intro i k hi hk
      obtain ⟨k, rfl⟩ : ∃ m, k = m + 1 := ⟨k - 1, by omega⟩
      cases hp : P i with
      | false => rw [h0 k i (by omega) hp, ih (i + 1) k (by omega) (by omega), List.range'_succ, List.find?_cons, hp]
      | true => rw [h1 k i (by omega) hp, List.range'_succ, List.find?_cons, hp]
  have := key n 0 FUEL (by omega) (FUEL_big hn)
  rw [← List.range_eq_range'] at this
  exact this
theorem flow_if {σ ρ : Type} (c : Prop) [Decidable c] (e : σ) (r : ρ) (k : σ → Option ρ) : ((if c then Flow.out e else Flow.ret r : Flow σ ρ).go k) = if c then k e else some r := by split <;> rfl
theorem ifr {α : Type} {c : Prop} [Decidable c] {A B r : α} (h1 : c → A = r) (h2 : ¬c → B = r) : (if c then A else B) = r := by
  by_cases h : c
  · rw [if_pos h]; exact h1 h
  · rw [if_neg h]; exact h2 h
theorem all_range_iff {n : Nat} {P : Nat → Bool} : (List.range n).all P = true ↔ ∀ i, i < n → P i = true := by simp [List.all_eq_true]
theorem bigOk_of {z : Int} (h : z.natAbs < 2 ^ 250) : BigOk z := by
  have : (2 : Nat) ^ 250 ≤ BB ^ 12 := by decide
  unfold BigOk; omega
end Go.Ax

/- More on loops of printed functions, in plain terms. -/
set_option linter.unusedVariables false
set_option linter.unusedSimpArgs false
namespace Go.Ax
open Go
/-- A loop with a measure and an invariant. -/
theorem loop_inv {S R : Type} (L : Nat → S → Option R) (Inv : S → Prop) (μ : S → Nat) (Q : R → Prop)
    (h : ∀ k s, Inv s → (∃ s', L (k + 1) s = L k s' ∧ Inv s' ∧ μ s' < μ s) ∨ (∃ r, L (k + 1) s = some r ∧ Q r)) {s0 : S} (h0 : Inv s0) (hm : μ s0 < 2 ^ 59) :
    ∃ r, L FUEL s0 = some r ∧ Q r := by
  have key : ∀ (d : Nat) (s : S) (k : Nat), Inv s → μ s ≤ d → d < k → ∃ r, L k s = some r ∧ Q r := by
    intro d
    induction d with
    | zero =>
      intro s k hi hd hk
      obtain ⟨k, rfl⟩ : ∃ m, k = m + 1 := ⟨k - 1, by omega⟩
      rcases h k s hi with ⟨s', _, _, hm⟩ | h
      · omega
      · exact h
    | succ d ih =>
      intro s k hi hd hk
      obtain ⟨k, rfl⟩ : ∃ m, k = m + 1 := ⟨k - 1, by omega⟩
      rcases h k s hi with ⟨s', e, hi', hm⟩ | h
      · rw [e]; exact ih s' k hi' (by omega) (by omega)
      · exact h
  exact key (μ s0) s0 FUEL h0 (Nat.le_refl _) (FUEL_big hm)
theorem take_succ_rd {α : Type} [Inhabited α] (l : List α) {i : Nat} (h : i < l.length) : l.take (i + 1) = l.take i ++ [rd l (i : Int)] := by
  rw [rd_get l h, List.take_succ_eq_append_getElem h]
theorem rd_mem {α : Type} [Inhabited α] {l : List α} {i : Nat} (h : i < l.length) : rd l (i : Int) ∈ l := by rw [rd_get l h]; exact List.getElem_mem _
/-- A loop over a list that gathers; the state ahead of the place. -/
theorem loop_gather {α β : Type} [Inhabited α] (L : Nat → List β → Int → Option (List β × Int)) (l : List α) (g : α → List β)
    (hs : ∀ k (i : Nat) s, i < l.length → s = (l.take i).flatMap g → L (k + 1) s i = L k (s ++ g (rd l (i : Int))) ((i + 1 : Nat) : Int))
    (he : ∀ k s, L (k + 1) s (l.length : Int) = some (s, (l.length : Int))) (hn : l.length < 2 ^ 59) :
    L FUEL [] 0 = some (l.flatMap g, (l.length : Int)) := by
  obtain ⟨r, h1, h2⟩ := loop_inv (fun k (p : List β × Nat) => L k p.1 (p.2 : Int)) (fun p => p.2 ≤ l.length ∧ p.1 = (l.take p.2).flatMap g) (fun p => l.length - p.2) (fun r => r = (l.flatMap g, (l.length : Int)))
    (fun k p hp => by
      obtain ⟨s, i⟩ := p
      obtain ⟨hi, hs'⟩ := hp
      by_cases h : i < l.length
      · refine .inl ⟨(s ++ g (rd l (i : Int)), i + 1), hs k i s h hs', ⟨h, ?_⟩, by simp only; omega⟩
        simp only at hs' ⊢
        rw [take_succ_rd l h, List.flatMap_append, ← hs']
        simp
      · have e : i = l.length := by simp only at hi; omega
        subst e
        refine .inr ⟨_, he k s, ?_⟩
        simp only at hs' ⊢
        rw [hs', List.take_length]) (s0 := ([], 0)) ⟨Nat.zero_le _, by simp⟩ (by simp only; omega)
  rw [show ((0 : Nat) : Int) = 0 from rfl] at h1
  rw [h1, h2]
theorem flatMap_if {α β : Type} (p : α → Prop) [DecidablePred p] (f : α → β) (l : List α) : l.flatMap (fun x => if p x then [f x] else []) = (l.filter (fun x => decide (p x))).map f := by
  induction l with
  | nil => rfl
  | cons x l ih =>
    rw [List.flatMap_cons, ih]
    by_cases h : p x <;> simp [h]
theorem flatMap_one {α β : Type} (f : α → β) (l : List α) : l.flatMap (fun x => [f x]) = l.map f := by
  induction l with
  | nil => rfl
  | cons x l ih => rw [List.flatMap_cons, ih]; rfl
theorem flatMap_if_len {α β : Type} (p : α → Prop) [DecidablePred p] (f : α → β) (l : List α) : (l.flatMap (fun x => if p x then [f x] else [])).length ≤ l.length := by
  rw [flatMap_if, List.length_map]; exact List.length_filter_le _ _
/-- A loop over a list that sums up. -/
theorem loop_sum {α σ : Type} [Inhabited α] (L : Nat → σ → Int → Option (σ × Int)) (l : List α) (g : σ → α → σ) (I : Nat → σ → Prop) (s0 : σ) (h0 : I 0 s0)
    (hs : ∀ k (i : Nat) s, i < l.length → I i s → s = (l.take i).foldl g s0 → L (k + 1) s i = L k (g s (rd l (i : Int))) ((i + 1 : Nat) : Int) ∧ I (i + 1) (g s (rd l (i : Int))))
    (he : ∀ k s, L (k + 1) s (l.length : Int) = some (s, (l.length : Int))) (hn : l.length < 2 ^ 59) :
    L FUEL s0 0 = some (l.foldl g s0, (l.length : Int)) := by
  obtain ⟨r, h1, h2⟩ := loop_inv (fun k (p : σ × Nat) => L k p.1 (p.2 : Int)) (fun p => p.2 ≤ l.length ∧ I p.2 p.1 ∧ p.1 = (l.take p.2).foldl g s0) (fun p => l.length - p.2) (fun r => r = (l.foldl g s0, (l.length : Int)))
    (fun k p hp => by
      obtain ⟨s, i⟩ := p
      obtain ⟨hi, hI, hs'⟩ := hp
      by_cases h : i < l.length
      · obtain ⟨e, hI'⟩ := hs k i s h hI hs'
        refine .inl ⟨(g s (rd l (i : Int)), i + 1), e, ⟨h, hI', ?_⟩, by simp only; omega⟩
        simp only at hs' ⊢
        rw [take_succ_rd l h, List.foldl_append, ← hs']
        rfl
      · have e : i = l.length := by simp only at hi; omega
        subst e
        refine .inr ⟨_, he k s, ?_⟩
        simp only at hs' ⊢
        rw [hs', List.take_length]) (s0 := (s0, 0)) ⟨Nat.zero_le _, h0, by simp⟩ (by simp only; omega)
  rw [show ((0 : Nat) : Int) = 0 from rfl] at h1
  rw [h1, h2]
theorem foldl_add_sum (l : List Int) (s : Int) : l.foldl (· + ·) s = s + l.sum := by
  induction l generalizing s with
  | nil => simp
  | cons x l ih => rw [List.foldl_cons, ih, List.sum_cons]; omega
/-- A loop that tells r at the first bad place: one obligation. -/
theorem loop_all1 {σ ρ : Type} (L : Nat → Int → Option (Flow σ ρ)) (n : Nat) (P : Nat → Prop) [DecidablePred P] (r : ρ) (e : σ)
    (h : ∀ k (i : Nat), i < n → L (k + 1) i = if P i then L k ((i + 1 : Nat) : Int) else some (.ret r)) (h2 : ∀ k, L (k + 1) (n : Int) = some (.out e)) (hn : n < 2 ^ 59) :
    L FUEL 0 = some (if (∀ i, i < n → P i) then .out e else .ret r) := by
  rw [loop_all L n (fun i => decide (P i)) r e (fun k i hi hp => by rw [h k i hi, if_pos (of_decide_eq_true hp)]) (fun k i hi hp => by rw [h k i hi, if_neg (of_decide_eq_false hp)]) h2 hn]
  by_cases hA : ∀ i, i < n → P i
  · rw [if_pos hA, if_pos (all_range_iff.2 fun i hi => decide_eq_true (hA i hi))]
  · rw [if_neg hA, if_neg (fun h => hA fun i hi => of_decide_eq_true (all_range_iff.1 h i hi))]
theorem ifl {α : Type} {c : Prop} [Decidable c] {A B r : α} (h1 : c → r = A) (h2 : ¬c → r = B) : r = (if c then A else B) := (ifr (fun h => (h1 h).symm) (fun h => (h2 h).symm)).symm
theorem if_dec (c : Prop) [Decidable c] : (if c then some true else some false : Option Bool) = some (decide c) := by by_cases h : c <;> simp [h]
/-- The same, with what follows the loop. -/
theorem loop_allg {σ ρ : Type} (L : Nat → Int → Option (Flow σ ρ)) (n : Nat) (P : Nat → Prop) [DecidablePred P] (r : ρ) (e : σ) (K : σ → Option ρ)
    (h1 : ∀ k (i : Nat), i < n → P i → L (k + 1) i = L k ((i + 1 : Nat) : Int)) (h0 : ∀ k (i : Nat), i < n → ¬P i → L (k + 1) i = some (.ret r)) (h2 : ∀ k, L (k + 1) (n : Int) = some (.out e)) (hn : n < 2 ^ 59) :
    ((L FUEL 0).bind fun f => f.go K) = if (∀ i, i < n → P i) then K e else some r := by
  rw [loop_all1 L n P r e (fun k i hi => by
    by_cases hp : P i
    · rw [if_pos hp]; exact h1 k i hi hp
    · rw [if_neg hp]; exact h0 k i hi hp) h2 hn, Option.bind_some, flow_if]
theorem find_range {α : Type} [Inhabited α] (l : List α) (p : α → Bool) : ((List.range l.length).find? fun i : Nat => p (rd l (i : Int))).map (fun i : Nat => rd l (i : Int)) = l.find? p := by
  induction l with
  | nil => rfl
  | cons x l ih =>
    rw [List.length_cons, List.range_succ_eq_map, List.find?_cons, List.find?_cons, List.find?_map]
    have e0 : rd (x :: l) ((0 : Nat) : Int) = x := by simp [rd]
    rw [e0]
    cases p x with
    | true => exact congrArg some e0
    | false =>
      simp only [Option.map_map]
      rw [← ih]
      have e : ∀ i : Nat, rd (x :: l) ((i.succ : Nat) : Int) = rd l (i : Int) := fun i => by simp [rd]
      simp only [Function.comp_def, e]
/-- A loop that stops at the first place of a list that is looked for: one obligation. -/
theorem loop_find1 {α σ ρ : Type} [Inhabited α] (L : Nat → Int → Option (Flow σ ρ)) (l : List α) (p : α → Bool) (r : α → ρ) (e : σ)
    (h : ∀ k (i : Nat), i < l.length → L (k + 1) i = if p (rd l (i : Int)) = true then some (.ret (r (rd l (i : Int)))) else L k ((i + 1 : Nat) : Int)) (h2 : ∀ k, L (k + 1) (l.length : Int) = some (.out e)) (hn : l.length < 2 ^ 59) :
    L FUEL 0 = some (match l.find? p with | some x => .ret (r x) | none => .out e) := by
  rw [loop_find L l.length (fun i => p (rd l (i : Int))) (fun i => r (rd l (i : Int))) e (fun k i hi hp => by rw [h k i hi, if_neg (by simp [hp])]) (fun k i hi hp => by rw [h k i hi, if_pos hp]) h2 hn, ← find_range l p]
  cases (List.range l.length).find? fun i : Nat => p (rd l (i : Int)) <;> rfl
theorem flow_find {α σ ρ : Type} (o : Option α) (r : α → ρ) (e : σ) (K : σ → Option ρ) : ((match o with | some x => Flow.ret (r x) | none => Flow.out e : Flow σ ρ).go K) = match o with | some x => some (r x) | none => K e := by cases o <;> rfl
theorem flow_ifL {σ ρ τ : Type} (c : Prop) [Decidable c] (e : σ) (r : ρ) (k : σ → Option (Flow τ ρ)) : ((if c then Flow.out e else Flow.ret r : Flow σ ρ).goL k) = if c then k e else some (.ret r) := by split <;> rfl
/-- Alike, one by one. -/
theorem eq_of_rd {α : Type} [Inhabited α] {a b : List α} (h : a.length = b.length) (h2 : ∀ i, i < a.length → rd a (i : Int) = rd b (i : Int)) : a = b := by
  apply List.ext_getElem h
  intro i h1 h2'
  have := h2 i h1
  rwa [rd_get a h1, rd_get b h2'] at this
/-- A loop over a list that gathers, with an end of its own. -/
theorem loop_gatherE {α β : Type} [Inhabited α] (L : Nat → List β → Int → Option (List β × Int)) (l : List α) (g : α → List β) (e : Int)
    (hs : ∀ k (i : Nat) s, i < l.length → s = (l.take i).flatMap g → L (k + 1) s i = L k (s ++ g (rd l (i : Int))) ((i + 1 : Nat) : Int))
    (he : ∀ k s, L (k + 1) s (l.length : Int) = some (s, e)) (hn : l.length < 2 ^ 59) :
    L FUEL [] 0 = some (l.flatMap g, e) := by
  obtain ⟨r, h1, h2⟩ := loop_inv (fun k (p : List β × Nat) => L k p.1 (p.2 : Int)) (fun p => p.2 ≤ l.length ∧ p.1 = (l.take p.2).flatMap g) (fun p => l.length - p.2) (fun r => r = (l.flatMap g, e))
    (fun k p hp => by
      obtain ⟨s, i⟩ := p
      obtain ⟨hi, hs'⟩ := hp
      by_cases h : i < l.length
      · refine .inl ⟨(s ++ g (rd l (i : Int)), i + 1), hs k i s h hs', ⟨h, ?_⟩, by simp only; omega⟩
        simp only at hs' ⊢
        rw [take_succ_rd l h, List.flatMap_append, ← hs']
        simp
      · have e : i = l.length := by simp only at hi; omega
        subst e
        refine .inr ⟨_, he k s, ?_⟩
        simp only at hs' ⊢
        rw [hs', List.take_length]) (s0 := ([], 0)) ⟨Nat.zero_le _, by simp⟩ (by simp only; omega)
  rw [show ((0 : Nat) : Int) = 0 from rfl] at h1
  rw [h1, h2]
/-- Numbers that rise are each there once. -/
theorem rise_lt {α : Type} [Inhabited α] {l : List α} (f : α → Int) (h : ∀ i : Nat, i < l.length → 0 < i → f (rd l ((i : Int) - 1)) < f (rd l (i : Int))) : ∀ d i : Nat, i + d + 1 < l.length → f (rd l (i : Int)) < f (rd l ((i + d + 1 : Nat) : Int)) := by
  intro d
  induction d with
  | zero =>
    intro i hi
    have h2 := h (i + 1) hi (by omega)
    rwa [show ((i + 1 : Nat) : Int) - 1 = (i : Int) by omega] at h2
  | succ d ih =>
    intro i hi
    have h1 := ih i (by omega)
    have h2 := h (i + d + 2) hi (by omega)
    rw [show ((i + d + 2 : Nat) : Int) - 1 = ((i + d + 1 : Nat) : Int) by omega] at h2
    exact Int.lt_trans h1 h2
theorem rd_of_mem {α : Type} [Inhabited α] {l : List α} {x : α} (h : x ∈ l) : ∃ i, i < l.length ∧ x = rd l (i : Int) := by
  obtain ⟨i, hi, e⟩ := List.mem_iff_getElem.1 h
  exact ⟨i, hi, by rw [rd_get l hi, e]⟩
theorem rise_one {α : Type} [Inhabited α] {l : List α} (f : α → Int) (h : ∀ i : Nat, i < l.length → 0 < i → f (rd l ((i : Int) - 1)) < f (rd l (i : Int))) {x y : α} (hx : x ∈ l) (hy : y ∈ l) (e : f x = f y) : x = y := by
  obtain ⟨i, hi, rfl⟩ := rd_of_mem hx
  obtain ⟨j, hj, rfl⟩ := rd_of_mem hy
  by_cases h1 : i = j
  · subst h1; rfl
  · by_cases h2 : i < j
    · have := rise_lt f h (j - i - 1) i (by omega)
      rw [show i + (j - i - 1) + 1 = j by omega] at this
      omega
    · have := rise_lt f h (i - j - 1) j (by omega)
      rw [show j + (i - j - 1) + 1 = i by omega] at this
      omega
theorem fold_last {α : Type} (p : α → Bool) (g : α → Int) (v : Int) (l : List α) (h : ∀ y ∈ l, p y = true → g y = v) (t : Int × Bool) : l.foldl (fun t x => if p x = true then (g x, true) else t) t = if l.any p = true then (v, true) else t := by
  induction l generalizing t with
  | nil => simp
  | cons x l ih =>
    rw [List.foldl_cons, ih (fun y hy => h y (List.mem_cons_of_mem _ hy)), List.any_cons]
    cases hx : p x with
    | true =>
      rw [h x (List.mem_cons_self ..) hx]
      simp
    | false => simp
theorem foldl_or {α : Type} (p : α → Bool) (l : List α) (b : Bool) : l.foldl (fun t x => t || p x) b = (b || l.any p) := by
  induction l generalizing b with
  | nil => simp
  | cons x l ih => rw [List.foldl_cons, ih, List.any_cons, Bool.or_assoc]
/-- The place of the first one that is looked for. -/
theorem index_gen {α : Type} [Inhabited α] (L : Nat → Int → Option (Flow Int Int)) (l : List α) (p : α → Bool)
    (h : ∀ k (i : Nat), i < l.length → L (k + 1) i = if p (rd l (i : Int)) = true then some (.ret (i : Int)) else L k ((i + 1 : Nat) : Int)) (h2 : ∀ k, L (k + 1) (l.length : Int) = some (.out (l.length : Int))) (hn : l.length < 2 ^ 59) :
    ∃ r, ((L FUEL 0).bind fun f => f.go fun _ => some (-1)) = some r ∧ (0 ≤ r ↔ l.any p = true) := by
  have hf := loop_find L l.length (fun i => p (rd l (i : Int))) (fun i => (i : Int)) (l.length : Int) (fun k i hi hp => by rw [h k i hi, if_neg (by simp [hp])]) (fun k i hi hp => by rw [h k i hi, if_pos hp]) h2 hn
  rw [hf]
  cases e : (List.range l.length).find? (fun i : Nat => p (rd l (i : Int))) with
  | none =>
    refine ⟨-1, rfl, ⟨fun h => absurd h (by omega), fun h => ?_⟩⟩
    obtain ⟨x, hx, hp⟩ := List.any_eq_true.1 h
    obtain ⟨i, hi, rfl⟩ := rd_of_mem hx
    have := List.find?_eq_none.1 e i (List.mem_range.2 hi)
    rw [hp] at this
    exact absurd rfl this
  | some i =>
    have h1 := List.find?_some e
    have h3 := List.mem_range.1 (List.mem_of_find?_eq_some e)
    exact ⟨(i : Int), rfl, ⟨fun _ => List.any_eq_true.2 ⟨_, rd_mem h3, h1⟩, fun _ => by omega⟩⟩
end Go.Ax

/- Positions: the program's answers and the reference's are the same ones. -/
set_option linter.unusedVariables false
set_option linter.unusedSimpArgs false
set_option maxRecDepth 100000
set_option maxHeartbeats 4000000
namespace Go.Ax
open Go
theorem all_congr_prefix {n : Nat} {P Q : Nat → Bool} (h : ∀ i, i < n → (∀ j, j < i → P j = true) → P i = Q i) : (List.range n).all P = (List.range n).all Q := by
  induction n with
  | zero => rfl
  | succ n ih =>
    have ih := ih fun i hi hp => h i (by omega) hp
    rw [List.range_succ, List.all_append, List.all_append, ih]
    cases e : (List.range n).all Q with
    | false => rfl
    | true =>
      rw [e] at ih
      simp only [List.all_cons, List.all_nil, Bool.and_true, Bool.true_and]
      exact h n (by omega) fun j hj => all_range_iff.1 ih j hj
theorem stock_key_eq (a b : Int) : stock_key.f a b = some (decide (0 ≤ a ∧ a ≤ 24 ∧ 0 ≤ b ∧ b < 6)) := by
  unfold stock_key.f
  by_cases h1 : a ≥ 0 <;> by_cases h2 : a ≤ 24 <;> by_cases h3 : b ≥ 0 <;> simp [h1, h2, h3] <;> omega
def posBase (x : api_Pos) : Prop := 0 ≤ x.Acc ∧ x.Acc ≤ 24 ∧ 0 ≤ x.Inst ∧ x.Inst < 6 ∧ x.Q ≠ 0 ∧ x.Q ≠ -9223372036854775808
instance (x : api_Pos) : Decidable (posBase x) := by unfold posBase; infer_instance
def ordI (x p : api_Pos) : Int := if ¬(x.Acc = p.Acc) then IntKind.i64.wrap (x.Acc - p.Acc) else IntKind.i64.wrap (x.Inst - p.Inst)
theorem stock_order_eq (x p : api_Pos) : stock_order.f x.Acc x.Inst p = some (ordI x p) := by
  unfold stock_order.f ordI
  split <;> rfl
def posP (l : List api_Pos) (i : Nat) : Bool := decide (posBase (rd l (i : Int)) ∧ (0 < i → 0 < ordI (rd l (i : Int)) (rd l ((i : Int) - 1))))
def posQ (l : List api_Pos) (i : Nat) : Bool := decide (posBase (rd l (i : Int)) ∧ (0 < i → (rd l ((i : Int) - 1)).Acc < (rd l (i : Int)).Acc ∨ (rd l ((i : Int) - 1)).Acc = (rd l (i : Int)).Acc ∧ (rd l ((i : Int) - 1)).Inst < (rd l (i : Int)).Inst))
def stockOk (l : List api_Pos) : Bool := (List.range l.length).all (posQ l)
theorem posP_posQ (l : List api_Pos) : (List.range l.length).all (posP l) = stockOk l := by
  refine all_congr_prefix fun i hi hp => ?_
  unfold posP posQ
  by_cases hb : posBase (rd l (i : Int))
  · by_cases h0 : 0 < i
    · have hprev := hp (i - 1) (by omega)
      unfold posP at hprev
      have hprev := (of_decide_eq_true hprev).1
      rw [show ((i - 1 : Nat) : Int) = (i : Int) - 1 by omega] at hprev
      generalize rd l ((i : Int) - 1) = p at *
      generalize rd l (i : Int) = x at *
      have hb' := hb
      unfold posBase at hb' hprev
      have e1 : IntKind.i64.wrap (x.Acc - p.Acc) = x.Acc - p.Acc := i64_wrap _ (by omega) (by omega)
      have e2 : IntKind.i64.wrap (x.Inst - p.Inst) = x.Inst - p.Inst := i64_wrap _ (by omega) (by omega)
      simp only [hb, true_and, h0, forall_const, ordI, e1, e2]
      rw [decide_eq_decide]
      split <;> omega
    · simp [hb, h0]
  · simp [hb]
theorem stock_Right_eq (l : List api_Pos) (hl : l.length < 2 ^ 59) : stock_Right.f l = some (stockOk l) := by
  have h := loop_all (fun k i => stock_Right.l0 l k i) l.length (posP l) false (l.length : Int) (fun k i hi hp => ?_) (fun k i hi hp => ?_) (fun k => ?_) hl
  · unfold stock_Right.f
    rw [h, posP_posQ]
    simp only [Option.bind_some, flow_if]
    cases stockOk l <;> rfl
  · have e1 := wsucc (i := i) (by omega)
    have e2 := wpred (i := i) (by omega)
    unfold posP at hp
    obtain ⟨hb, ho⟩ := of_decide_eq_true hp
    unfold posBase at hb
    simp only [stock_Right.l0, stock_key_eq, stock_order_eq, stock_Quantity.f, Option.bind_some, e1, e2, decide_eq_true_eq, bne_iff_ne]
    rw [if_pos (by omega), if_pos (by omega), if_neg (by omega), if_neg (by omega), if_neg (by simp; omega)]
    by_cases h0 : 0 < i
    · rw [if_pos (by omega), if_pos (by omega), if_neg (by have := ho h0; omega)]
    · rw [if_neg (by omega)]
  · have e1 := wsucc (i := i) (by omega)
    have e2 := wpred (i := i) (by omega)
    unfold posP at hp
    have hp := of_decide_eq_false hp
    unfold posBase at hp
    simp only [stock_Right.l0, stock_key_eq, stock_order_eq, stock_Quantity.f, Option.bind_some, e1, e2, decide_eq_true_eq, bne_iff_ne]
    rw [if_pos (by omega), if_pos (by omega)]
    repeat' split
    all_goals first | rfl | (exfalso; simp only [ne_eq, Classical.not_not, gt_iff_lt] at *; omega)
  · simp only [stock_Right.l0]; rw [if_neg (by omega)]
theorem rStock_eq (l : List api_Pos) (hl : l.length < 2 ^ 59) : novationref10_Stock.f l = some (stockOk l) := by
  have h := loop_all (fun k i => novationref10_Stock.l0 l k i) l.length (posQ l) false (l.length : Int) (fun k i hi hp => ?_) (fun k i hi hp => ?_) (fun k => ?_) hl
  · unfold novationref10_Stock.f
    rw [h]
    simp only [Option.bind_some, flow_if]
    unfold stockOk
    cases (List.range l.length).all (posQ l) <;> rfl
  · have e1 := wsucc (i := i) (by omega)
    have e2 := wpred (i := i) (by omega)
    unfold posQ at hp
    obtain ⟨hb, ho⟩ := of_decide_eq_true hp
    unfold posBase at hb
    rw [novationref10_Stock.l0, e1, e2]
    rw [if_pos (by omega), if_pos (by omega)]
    repeat' split
    all_goals first | rfl | (exfalso; omega)
  · have e1 := wsucc (i := i) (by omega)
    have e2 := wpred (i := i) (by omega)
    unfold posQ at hp
    have hp := of_decide_eq_false hp
    unfold posBase at hp
    rw [novationref10_Stock.l0, e1, e2]
    rw [if_pos (by omega), if_pos (by omega)]
    repeat' split
    all_goals first | rfl | (exfalso; omega)
  · simp only [novationref10_Stock.l0]; rw [if_neg (by omega)]
def priceOk (p : Int) : Bool := decide (1 ≤ p ∧ p ≤ 1000000000000)
theorem mark_Price_eq (p : Int) : mark_Price.f p = some (priceOk p) := by
  unfold mark_Price.f priceOk
  by_cases h : p ≥ 1 <;> simp [h]
theorem rprice_eq (p : Int) : novationref15_price.f p = some (priceOk p) := by
  unfold novationref15_price.f priceOk
  by_cases h : p ≥ 1 <;> simp [h]

/-- The sum of an instrument's positions. -/
def stockSum (l : List api_Pos) (inst : Int) : Int := ((l.filter (fun x => decide (x.Inst = inst))).map (·.Q)).sum
def PosI (l : List api_Pos) : Prop := ∀ i, i < l.length → I64 (rd l (i : Int)).Q
theorem sum_bound (l : List Int) (h : ∀ x ∈ l, I64 x) : (l.sum).natAbs ≤ l.length * 9223372036854775808 := by
  induction l with
  | nil => simp
  | cons x l ih =>
    have h1 := ih fun y hy => h y (List.mem_cons_of_mem _ hy)
    have h2 := h x (List.mem_cons_self ..)
    unfold I64 at h2
    rw [List.sum_cons, List.length_cons, Nat.add_mul]
    omega
theorem sum_wid {l : List Int} (h : ∀ x ∈ l, I64 x) (hl : l.length < 2 ^ 59) : Wid l.sum ∧ BigOk l.sum := by
  have h1 := sum_bound l h
  have h2 : l.length * 9223372036854775808 ≤ 2 ^ 59 * 9223372036854775808 := Nat.mul_le_mul_right _ (by omega)
  refine ⟨?_, bigOk_of (Nat.lt_of_le_of_lt (Nat.le_trans h1 h2) (by decide))⟩
  unfold Wid
  omega
theorem mem_rd {α : Type} [Inhabited α] {l : List α} {x : α} (h : x ∈ l) : ∃ i, i < l.length ∧ x = rd l (i : Int) := by
  obtain ⟨i, hi, e⟩ := List.mem_iff_getElem.1 h
  exact ⟨i, hi, by rw [rd_get l hi, e]⟩
theorem stock_vals {l : List api_Pos} (hI : PosI l) (inst : Int) : ∀ x ∈ (l.filter (fun x => decide (x.Inst = inst))).map (·.Q), I64 x := by
  intro x hx
  obtain ⟨y, hy, rfl⟩ := List.mem_map.1 hx
  obtain ⟨i, hi, rfl⟩ := mem_rd (List.mem_filter.1 hy).1
  exact hI i hi

theorem stock_Sum_eq {l : List api_Pos} (inst : Int) (hI : PosI l) (hl : l.length < 2 ^ 32) : stock_Sum.f l inst = some (if stockOk l = true then stockSum l inst else 0) := by
  unfold stock_Sum.f
  rw [stock_Right_eq l (by omega), Option.bind_some]
  by_cases hs : stockOk l = true
  · rw [if_neg (by simp [hs]), if_pos hs]
    have h := loop_gather (fun k s i => stock_Sum.l0 l inst k s i) l (fun x => if x.Inst = inst then [x.Q] else []) (fun k i s hi e => ?_) (fun k s => ?_) (by omega)
    · rw [h, Option.bind_some]
      simp only
      rw [flatMap_if (fun x : api_Pos => x.Inst = inst) (·.Q)]
      have hv := stock_vals hI inst
      have hlen : ((l.filter (fun x => decide (x.Inst = inst))).map (·.Q)).length ≤ l.length := by rw [List.length_map]; exact List.length_filter_le _ _
      have hw := sum_wid hv (by omega)
      unfold wide_Sum.f
      have hall : ((l.filter (fun x => decide (x.Inst = inst))).map (·.Q)).all wfit = true := by
        rw [List.all_eq_true]
        intro x hx
        have := hv x hx
        unfold I64 at this
        exact decide_eq_true ⟨by omega, by omega⟩
      rw [if_pos ⟨hall, by omega⟩, Option.bind_some]
      unfold stockSum wfitV
      rw [if_pos hw.1]
    · have e1 := wsucc (i := i) (by omega)
      have hQ := hI i hi
      have hlen : s.length ≤ i := by rw [e]; refine Nat.le_trans (flatMap_if_len (fun x : api_Pos => x.Inst = inst) (·.Q) _) (by rw [List.length_take]; omega)
      simp only [stock_Sum.l0, e1]
      rw [if_pos (by omega), if_pos (by omega)]
      by_cases h : (rd l (i : Int)).Inst = inst
      · rw [if_pos h, if_pos h]
        unfold wide_Of.f
        rw [if_pos hQ, Option.bind_some, if_pos (by omega)]
      · rw [if_neg h, if_neg h, List.append_nil]
    · simp only [stock_Sum.l0]; rw [if_neg (by omega)]
  · rw [if_pos hs, if_neg hs]
theorem foldl_if {α : Type} (p : α → Prop) [DecidablePred p] (f : α → Int) (l : List α) (s : Int) : l.foldl (fun t x => if p x then t + f x else t) s = s + ((l.filter (fun x => decide (p x))).map f).sum := by
  induction l generalizing s with
  | nil => simp
  | cons x l ih =>
    rw [List.foldl_cons, ih]
    by_cases h : p x
    · simp [h]; omega
    · simp [h]
theorem rSumInst_eq {l : List api_Pos} (inst : Int) (hI : PosI l) (hl : l.length < 2 ^ 32) : novationref10_SumInst.f l inst = some (if stockOk l = true then stockSum l inst else 0) := by
  unfold novationref10_SumInst.f
  rw [rStock_eq l (by omega), Option.bind_some]
  by_cases hs : stockOk l = true
  · rw [if_neg (by simp [hs]), if_pos hs]
    have h := loop_sum (fun k s i => novationref10_SumInst.l0 l inst k s i) l (fun t x => if x.Inst = inst then t + x.Q else t) (fun i s => s.natAbs ≤ i * 9223372036854775808) 0 (by simp) (fun k i s hi hb e => ?_) (fun k s => ?_) (by omega)
    · rw [h, Option.bind_some]
      simp only
      rw [foldl_if (fun x : api_Pos => x.Inst = inst) (·.Q), Int.zero_add]
      rfl
    · have e1 := wsucc (i := i) (by omega)
      have hQ := hI i hi
      have hQ' := hQ
      unfold I64 at hQ'
      have hb1 : i * 9223372036854775808 ≤ 2 ^ 32 * 9223372036854775808 := Nat.mul_le_mul_right _ (by omega)
      have hB : BigOk s := bigOk_of (Nat.lt_of_le_of_lt (Nat.le_trans hb hb1) (by decide))
      have hB2 : BigOk (rd l (i : Int)).Q := bigOk_of (Nat.lt_of_le_of_lt (m := 2 ^ 64) (by omega) (by decide))
      simp only [novationref10_SumInst.l0, e1]
      by_cases h : (rd l (i : Int)).Inst = inst
      · refine ⟨?_, ?_⟩
        · rw [if_pos (by omega), if_pos (by omega), if_pos h, if_pos h]
          unfold novationref1_Whole.f novationref1_Plus.f
          rw [if_pos hQ, Option.bind_some, if_pos ⟨hB, hB2⟩, Option.bind_some]
        · rw [if_pos h, Nat.add_mul]
          omega
      · refine ⟨?_, ?_⟩
        · rw [if_pos (by omega), if_pos (by omega), if_neg h, if_neg h]
        · rw [if_neg h, Nat.add_mul]
          exact Nat.le_trans hb (Nat.le_add_right _ _)
    · show novationref10_SumInst.l0 l inst (k + 1) s (l.length : Int) = _
      rw [novationref10_SumInst.l0, if_neg (Int.lt_irrefl _)]
  · rw [if_pos hs, if_neg hs]
theorem stockSum_big {l : List api_Pos} (inst : Int) (hI : PosI l) (hl : l.length < 2 ^ 32) : BigOk (stockSum l inst) := by
  refine (sum_wid (stock_vals hI inst) ?_).2
  have : ((l.filter (fun x => decide (x.Inst = inst))).map (·.Q)).length ≤ l.length := by rw [List.length_map]; exact List.length_filter_le _ _
  omega
theorem cmpI_zero (z : Int) : cmpI z 0 = 0 ↔ z = 0 := by unfold cmpI; repeat' split; all_goals omega
/-- All of the instruments come to 0, and the positions may be. -/
def flatOk (l : List api_Pos) : Bool := stockOk l && decide (∀ i : Nat, i < 6 → stockSum l (i : Int) = 0)
theorem flat_if {b : Bool} {z : Int} {A B : Option (Flow Int Bool)} : (if ¬(cmpI (if b = true then z else 0) 0 = 0) then A else B) = if b = true → z = 0 then B else A := by
  cases b <;> simp [cmpI_zero]
theorem stock_Flat_eq {l : List api_Pos} (hI : PosI l) (hl : l.length < 2 ^ 32) : stock_Flat.f l = some (flatOk l) := by
  unfold stock_Flat.f
  rw [loop_allg (fun k i => stock_Flat.l0 l k i) 6 (fun i => stockOk l = true → stockSum l (i : Int) = 0) false 6 _ (fun k i hi hP => ?_) (fun k i hi hP => ?_) (fun k => ?_) (by omega)]
  · rw [stock_Right_eq l (by omega)]
    unfold flatOk
    cases hs : stockOk l
    · simp
    · simp only [true_implies, Bool.true_and, Option.bind_some]; exact if_dec _
  · have e1 := wsucc (i := i) (by omega)
    simp only [stock_Flat.l0, e1, stock_Sum_eq (i : Int) hI hl, Option.bind_some, wide_Sign.f, flat_if]
    rw [if_pos (by omega), if_pos hP]
  · have e1 := wsucc (i := i) (by omega)
    simp only [stock_Flat.l0, e1, stock_Sum_eq (i : Int) hI hl, Option.bind_some, wide_Sign.f, flat_if]
    rw [if_pos (by omega), if_neg hP]
  · simp only [stock_Flat.l0]; rw [if_neg (by omega)]; rfl
theorem rFlat_eq {l : List api_Pos} (hI : PosI l) (hl : l.length < 2 ^ 32) : novationref10_Flat.f l = some (flatOk l) := by
  have hB : ∀ i : Nat, BigOk (if stockOk l = true then stockSum l (i : Int) else 0) := fun i => by
    split
    · exact stockSum_big _ hI hl
    · exact bigOk_of (by decide)
  unfold novationref10_Flat.f
  rw [loop_allg (fun k i => novationref10_Flat.l0 l k i) 6 (fun i => stockOk l = true → stockSum l (i : Int) = 0) false 6 _ (fun k i hi hP => ?_) (fun k i hi hP => ?_) (fun k => ?_) (by omega)]
  · rw [rStock_eq l (by omega)]
    unfold flatOk
    cases hs : stockOk l
    · simp
    · simp only [true_implies, Bool.true_and, Option.bind_some]; exact if_dec _
  · have e1 := wsucc (i := i) (by omega)
    simp only [novationref10_Flat.l0, e1, rSumInst_eq (i : Int) hI hl, Option.bind_some, novationref1_Sign.f, hB i, if_true, flat_if]
    rw [if_pos (by omega), if_pos hP]
  · have e1 := wsucc (i := i) (by omega)
    simp only [novationref10_Flat.l0, e1, rSumInst_eq (i : Int) hI hl, Option.bind_some, novationref1_Sign.f, hB i, if_true, flat_if]
    rw [if_pos (by omega), if_neg hP]
  · simp only [novationref10_Flat.l0]; rw [if_neg (by omega)]; rfl
/-- An account's positions. -/
def legsOf (l : List api_Pos) (acc : Int) : List api_Leg := (l.filter (fun x => decide (x.Acc = acc))).map (fun x => ⟨x.Inst, x.Q⟩)
theorem stock_Of_eq {l : List api_Pos} (acc : Int) (hl : l.length < 2 ^ 32) : stock_Of.f l acc = some (if stockOk l = true then legsOf l acc else []) := by
  unfold stock_Of.f
  rw [stock_Right_eq l (by omega), Option.bind_some]
  by_cases hs : stockOk l = true
  · rw [if_neg (by simp [hs]), if_pos hs]
    have h := loop_gather (fun k s i => stock_Of.l0 l acc k s i) l (fun x => if x.Acc = acc then [(⟨x.Inst, x.Q⟩ : api_Leg)] else []) (fun k i s hi e => ?_) (fun k s => ?_) (by omega)
    · rw [h, Option.bind_some]
      simp only
      rw [flatMap_if (fun x : api_Pos => x.Acc = acc) (fun x => (⟨x.Inst, x.Q⟩ : api_Leg))]
      rfl
    · have e1 := wsucc (i := i) (by omega)
      have hlen : s.length ≤ i := by rw [e]; refine Nat.le_trans (flatMap_if_len (fun x : api_Pos => x.Acc = acc) (fun x => (⟨x.Inst, x.Q⟩ : api_Leg)) _) (by rw [List.length_take]; omega)
      simp only [stock_Of.l0, e1]
      rw [if_pos (by omega), if_pos (by omega)]
      by_cases h : (rd l (i : Int)).Acc = acc
      · rw [if_pos h, if_pos h, if_pos (by omega)]
      · rw [if_neg h, if_neg h, List.append_nil]
    · simp only [stock_Of.l0]; rw [if_neg (by omega)]
  · rw [if_pos hs, if_neg hs]
theorem rOf_eq {l : List api_Pos} (acc : Int) (hl : l.length < 2 ^ 32) : novationref10_Of.f l acc = some (if stockOk l = true then legsOf l acc else []) := by
  unfold novationref10_Of.f
  rw [rStock_eq l (by omega), Option.bind_some]
  by_cases hs : stockOk l = true
  · rw [if_neg (by simp [hs]), if_pos hs]
    have h := loop_gather (fun k s i => novationref10_Of.l0 l acc k s i) l (fun x => if x.Acc = acc then [(⟨x.Inst, x.Q⟩ : api_Leg)] else []) (fun k i s hi e => ?_) (fun k s => ?_) (by omega)
    · rw [h, Option.bind_some]
      simp only
      rw [flatMap_if (fun x : api_Pos => x.Acc = acc) (fun x => (⟨x.Inst, x.Q⟩ : api_Leg))]
      rfl
    · have e1 := wsucc (i := i) (by omega)
      have hlen : s.length ≤ i := by rw [e]; refine Nat.le_trans (flatMap_if_len (fun x : api_Pos => x.Acc = acc) (fun x => (⟨x.Inst, x.Q⟩ : api_Leg)) _) (by rw [List.length_take]; omega)
      simp only [novationref10_Of.l0, e1]
      rw [if_pos (by omega), if_pos (by omega)]
      by_cases h : (rd l (i : Int)).Acc = acc
      · rw [if_pos h, if_pos h, if_pos (by omega)]
      · rw [if_neg h, if_neg h, List.append_nil]
    · simp only [novationref10_Of.l0]; rw [if_neg (by omega)]
  · rw [if_pos hs, if_neg hs]
end Go.Ax

/- Rows: the program's answers and the reference's are the same ones. -/
set_option linter.unusedVariables false
set_option linter.unusedSimpArgs false
set_option maxRecDepth 100000
set_option maxHeartbeats 4000000
namespace Go.Ax
open Go
def keyOk (k n : Int) : Prop := (k = 1 ∨ k = 2 ∨ k = 3 ∨ k = 4) ∧ n = 0 ∨ k = 5 ∧ 1 ≤ n ∧ n ≤ 24 ∨ (k = 6 ∨ k = 7) ∧ 1 ≤ n ∧ n ≤ 12
instance (k n : Int) : Decidable (keyOk k n) := by unfold keyOk; infer_instance
theorem some_beq {a b : Int} {P : Prop} [Decidable P] (h : a = b ↔ P) : some (a == b) = some (decide P) := by
  by_cases e : a = b
  · have hp := h.1 e; subst e; simp [hp]
  · have hp : ¬P := fun hp => e (h.2 hp); simp [e, hp]
theorem some_dec {Q P : Prop} [Decidable Q] [Decidable P] (h : Q ↔ P) : some (decide Q) = some (decide P) := by rw [decide_eq_decide.2 h]
theorem some_false {P : Prop} [Decidable P] (h : ¬P) : some false = some (decide P) := by rw [decide_eq_false h]
theorem ledger_Key_eq (k n : Int) : ledger_Key.f k n = some (decide (keyOk k n)) := by
  unfold ledger_Key.f
  repeat' (first | refine ifr (fun _ => ?_) (fun _ => ?_))
  all_goals (try (exfalso; omega))
  all_goals unfold keyOk
  all_goals first | exact some_beq (by omega) | exact some_dec (by omega) | exact some_false (by omega)
theorem rKey_eq (k n : Int) : novationref10_Key.f k n = some (decide (keyOk k n)) := ledger_Key_eq k n
def ordR (x p : api_Row) : Int := if ¬(x.Kind = p.Kind) then IntKind.i64.wrap (x.Kind - p.Kind) else IntKind.i64.wrap (x.N - p.N)
theorem ledger_order_eq (x p : api_Row) : ledger_order.f x.Kind x.N p = some (ordR x p) := by
  unfold ledger_order.f ordR
  split <;> rfl
def ltR (p x : api_Row) : Prop := p.Kind < x.Kind ∨ p.Kind = x.Kind ∧ p.N < x.N
instance (p x : api_Row) : Decidable (ltR p x) := by unfold ltR; infer_instance
def rowP (l : List api_Row) (i : Nat) : Prop := keyOk (rd l (i : Int)).Kind (rd l (i : Int)).N ∧ ¬(rd l (i : Int)).Sum = 0 ∧ (0 < i → ltR (rd l ((i : Int) - 1)) (rd l (i : Int)))
instance (l : List api_Row) : DecidablePred (rowP l) := fun i => by unfold rowP; infer_instance
def rowQ (l : List api_Row) (i : Nat) : Prop := keyOk (rd l (i : Int)).Kind (rd l (i : Int)).N ∧ ¬(rd l (i : Int)).Sum = 0 ∧ (0 < i → ¬ ordR (rd l (i : Int)) (rd l ((i : Int) - 1)) ≤ 0)
instance (l : List api_Row) : DecidablePred (rowQ l) := fun i => by unfold rowQ; infer_instance
def rowsOk (l : List api_Row) : Bool := decide (∀ i, i < l.length → rowP l i)
theorem ordR_lt {x p : api_Row} (hx : keyOk x.Kind x.N) (hp : keyOk p.Kind p.N) : ¬ ordR x p ≤ 0 ↔ ltR p x := by
  unfold keyOk at hx hp
  have e1 : IntKind.i64.wrap (x.Kind - p.Kind) = x.Kind - p.Kind := i64_wrap _ (by omega) (by omega)
  have e2 : IntKind.i64.wrap (x.N - p.N) = x.N - p.N := i64_wrap _ (by omega) (by omega)
  unfold ordR ltR
  rw [e1, e2]
  split <;> omega
theorem rowQ_all (l : List api_Row) : (∀ i, i < l.length → rowQ l i) ↔ (∀ i, i < l.length → rowP l i) := by
  constructor
  · intro h i hi
    have h1 := h i hi
    refine ⟨h1.1, h1.2.1, fun h0 => ?_⟩
    have hp := (h (i - 1) (by omega)).1
    rw [show ((i - 1 : Nat) : Int) = (i : Int) - 1 by omega] at hp
    exact (ordR_lt h1.1 hp).1 (h1.2.2 h0)
  · intro h i hi
    have h1 := h i hi
    refine ⟨h1.1, h1.2.1, fun h0 => ?_⟩
    have hp := (h (i - 1) (by omega)).1
    rw [show ((i - 1 : Nat) : Int) = (i : Int) - 1 by omega] at hp
    exact (ordR_lt h1.1 hp).2 (h1.2.2 h0)
theorem ledger_Right_eq (l : List api_Row) (hl : l.length < 2 ^ 59) : ledger_Right.f l = some (rowsOk l) := by
  unfold ledger_Right.f rowsOk
  rw [loop_allg (fun k i => ledger_Right.l0 l k i) l.length (rowQ l) false (l.length : Int) _ (fun k i hi hP => ?_) (fun k i hi hP => ?_) (fun k => ?_) hl]
  · rw [if_dec, decide_eq_decide.2 (rowQ_all l)]
  · have e1 := wsucc (i := i) (by omega)
    have e2 := wpred (i := i) (by omega)
    simp only [ledger_Right.l0, e1, e2, ledger_Key_eq, ledger_order_eq, Option.bind_some, decide_eq_true_eq]
    obtain ⟨h1, h2, h3⟩ := hP
    rw [if_pos (by omega), if_pos (by omega), if_neg (fun h => h h1), if_neg h2]
    by_cases h0 : 0 < i
    · rw [if_pos (by omega), if_pos (by omega), if_neg (h3 h0)]
    · rw [if_neg (by omega)]
  · have e1 := wsucc (i := i) (by omega)
    have e2 := wpred (i := i) (by omega)
    simp only [ledger_Right.l0, e1, e2, ledger_Key_eq, ledger_order_eq, Option.bind_some, decide_eq_true_eq]
    rw [if_pos (by omega), if_pos (by omega)]
    by_cases h1 : keyOk (rd l (i : Int)).Kind (rd l (i : Int)).N
    · rw [if_neg (fun h => h h1)]
      by_cases h2 : (rd l (i : Int)).Sum = 0
      · rw [if_pos h2]
      · rw [if_neg h2]
        by_cases h0 : 0 < i
        · rw [if_pos (by omega), if_pos (by omega)]
          by_cases h3 : ordR (rd l (i : Int)) (rd l ((i : Int) - 1)) ≤ 0
          · rw [if_pos h3]
          · exact absurd ⟨h1, h2, fun _ => h3⟩ hP
        · exact absurd ⟨h1, h2, fun h => absurd h h0⟩ hP
    · rw [if_pos h1]
  · simp only [ledger_Right.l0]; rw [if_neg (by omega)]
theorem rRows_eq (l : List api_Row) (hl : l.length < 2 ^ 59) : novationref10_Rows.f l = some (rowsOk l) := by
  unfold novationref10_Rows.f rowsOk
  rw [loop_allg (fun k i => novationref10_Rows.l0 l k i) l.length (rowP l) false (l.length : Int) _ (fun k i hi hP => ?_) (fun k i hi hP => ?_) (fun k => ?_) hl]
  · rw [if_dec]
  · have e1 := wsucc (i := i) (by omega)
    have e2 := wpred (i := i) (by omega)
    simp only [novationref10_Rows.l0, e1, e2, rKey_eq, Option.bind_some, decide_eq_true_eq]
    obtain ⟨h1, h2, h3⟩ := hP
    unfold ltR at h3
    rw [if_pos (by omega), if_pos (by omega), if_neg (fun h => h h1), if_neg h2]
    repeat' (first | with_reducible rfl | (exfalso; omega) | refine ifr (fun _ => ?_) (fun _ => ?_))
  · have e1 := wsucc (i := i) (by omega)
    have e2 := wpred (i := i) (by omega)
    simp only [novationref10_Rows.l0, e1, e2, rKey_eq, Option.bind_some, decide_eq_true_eq]
    rw [if_pos (by omega), if_pos (by omega)]
    by_cases h1 : keyOk (rd l (i : Int)).Kind (rd l (i : Int)).N
    · rw [if_neg (fun h => h h1)]
      by_cases h2 : (rd l (i : Int)).Sum = 0
      · rw [if_pos h2]
      · rw [if_neg h2]
        have h3 : ¬(0 < i → ltR (rd l ((i : Int) - 1)) (rd l (i : Int))) := fun h => hP ⟨h1, h2, h⟩
        unfold ltR at h3
        repeat' (first | with_reducible rfl | (exfalso; omega) | refine ifr (fun _ => ?_) (fun _ => ?_))
    · rw [if_pos h1]
  · simp only [novationref10_Rows.l0]; rw [if_neg (by omega)]
def RowI (l : List api_Row) : Prop := ∀ i, i < l.length → I64 (rd l (i : Int)).Sum
def rowSum (l : List api_Row) : Int := (l.map (·.Sum)).sum
theorem row_vals {l : List api_Row} (hI : RowI l) : ∀ x ∈ l.map (·.Sum), I64 x := by
  intro x hx
  obtain ⟨y, hy, rfl⟩ := List.mem_map.1 hx
  obtain ⟨i, hi, rfl⟩ := mem_rd hy
  exact hI i hi
theorem all_wfit {l : List Int} (h : ∀ x ∈ l, I64 x) : l.all wfit = true := by
  rw [List.all_eq_true]
  intro x hx
  have := h x hx
  unfold I64 at this
  exact decide_eq_true ⟨by omega, by omega⟩
theorem ledger_Total_eq {l : List api_Row} (hI : RowI l) (hl : l.length < 2 ^ 32) : ledger_Total.f l = some (if rowsOk l = true then rowSum l else 0) := by
  unfold ledger_Total.f
  rw [ledger_Right_eq l (by omega), Option.bind_some]
  by_cases hs : rowsOk l = true
  · rw [if_neg (by simp [hs]), if_pos hs]
    have h := loop_gather (fun k s i => ledger_Total.l0 l k s i) l (fun x => [x.Sum]) (fun k i s hi e => ?_) (fun k s => ?_) (by omega)
    · rw [h, Option.bind_some]
      simp only
      rw [flatMap_one (fun x : api_Row => x.Sum)]
      have hv := row_vals hI
      have hw := sum_wid hv (by rw [List.length_map]; omega)
      unfold wide_Sum.f
      rw [if_pos ⟨all_wfit hv, by rw [List.length_map]; omega⟩, Option.bind_some]
      unfold rowSum wfitV
      rw [if_pos hw.1]
    · have e1 := wsucc (i := i) (by omega)
      have hQ := hI i hi
      have hlen : s.length ≤ i := by
        rw [e, flatMap_one (fun x : api_Row => x.Sum), List.length_map, List.length_take]; omega
      simp only [ledger_Total.l0, e1]
      rw [if_pos (by omega), if_pos (by omega)]
      unfold wide_Of.f
      rw [if_pos hQ, Option.bind_some, if_pos (by omega)]
    · simp only [ledger_Total.l0]; rw [if_neg (by omega)]
  · rw [if_pos hs, if_neg hs]
theorem foldl_sum {α : Type} (f : α → Int) (l : List α) (s : Int) : l.foldl (fun t x => t + f x) s = s + (l.map f).sum := by
  induction l generalizing s with
  | nil => simp
  | cons x l ih => rw [List.foldl_cons, ih]; simp; omega
theorem rTotal_eq {l : List api_Row} (hI : RowI l) (hl : l.length < 2 ^ 32) : novationref10_Total.f l = some (if rowsOk l = true then rowSum l else 0) := by
  unfold novationref10_Total.f
  rw [rRows_eq l (by omega), Option.bind_some]
  by_cases hs : rowsOk l = true
  · rw [if_neg (by simp [hs]), if_pos hs]
    have h := loop_sum (fun k s i => novationref10_Total.l0 l k s i) l (fun t x => t + x.Sum) (fun i s => s.natAbs ≤ i * 9223372036854775808) 0 (by simp) (fun k i s hi hb e => ?_) (fun k s => ?_) (by omega)
    · rw [h, Option.bind_some]
      simp only
      rw [foldl_sum (fun x : api_Row => x.Sum), Int.zero_add]
      rfl
    · have e1 := wsucc (i := i) (by omega)
      have hQ := hI i hi
      have hQ' := hQ
      unfold I64 at hQ'
      have hb1 : i * 9223372036854775808 ≤ 2 ^ 32 * 9223372036854775808 := Nat.mul_le_mul_right _ (by omega)
      have hB : BigOk s := bigOk_of (Nat.lt_of_le_of_lt (Nat.le_trans hb hb1) (by decide))
      have hB2 : BigOk (rd l (i : Int)).Sum := bigOk_of (Nat.lt_of_le_of_lt (m := 2 ^ 64) (by omega) (by decide))
      simp only [novationref10_Total.l0, e1]
      refine ⟨?_, ?_⟩
      · rw [if_pos (by omega), if_pos (by omega)]
        unfold novationref1_Whole.f novationref1_Plus.f
        rw [if_pos hQ, Option.bind_some, if_pos ⟨hB, hB2⟩, Option.bind_some]
      · rw [Nat.add_mul]
        omega
    · show novationref10_Total.l0 l (k + 1) s (l.length : Int) = _
      rw [novationref10_Total.l0, if_neg (Int.lt_irrefl _)]
  · rw [if_pos hs, if_neg hs]
theorem rowSum_big {l : List api_Row} (hI : RowI l) (hl : l.length < 2 ^ 32) : BigOk (rowSum l) := (sum_wid (row_vals hI) (by rw [List.length_map]; omega)).2
/-- A row's sum. -/
def getOf (l : List api_Row) (k n : Int) : Int := match l.find? (fun x => decide (x.Kind = k ∧ x.N = n)) with | some x => x.Sum | none => 0
def getR (l : List api_Row) (k n : Int) : Int := if rowsOk l = true then getOf l k n else 0
theorem ledger_Get_eq (l : List api_Row) (k n : Int) (hl : l.length < 2 ^ 59) : ledger_Get.f l k n = some (getR l k n) := by
  have h := loop_find1 (fun q i => ledger_Get.l0 l k n q i) l (fun x => decide (x.Kind = k ∧ x.N = n)) (fun x => x.Sum) (l.length : Int) (fun q i hi => ?_) (fun k => ?_) hl
  · unfold ledger_Get.f getR getOf
    rw [ledger_Right_eq l hl, h]
    simp only [Option.bind_some]
    by_cases hm : rowsOk l = true
    · rw [if_neg (by simp [hm]), if_pos hm]
      cases l.find? (fun x => decide (x.Kind = k ∧ x.N = n)) <;> rfl
    · rw [if_pos hm, if_neg hm]
  · have e1 := wsucc (i := i) (by omega)
    simp only [ledger_Get.l0, e1, decide_eq_true_eq]
    rw [if_pos (by omega), if_pos (by omega)]
    repeat' (first | with_reducible rfl | (exfalso; omega) | refine ifr (fun _ => ?_) (fun _ => ?_) | refine ifl (fun _ => ?_) (fun _ => ?_))
  · simp only [ledger_Get.l0]; rw [if_neg (by omega)]
theorem rGet_eq (l : List api_Row) (k n : Int) (hl : l.length < 2 ^ 59) : novationref10_Get.f l k n = some (getR l k n) := by
  have h := loop_find1 (fun q i => novationref10_Get.l0 l k n q i) l (fun x => decide (x.Kind = k ∧ x.N = n)) (fun x => x.Sum) (l.length : Int) (fun q i hi => ?_) (fun k => ?_) hl
  · unfold novationref10_Get.f getR getOf
    rw [rRows_eq l hl, h]
    simp only [Option.bind_some]
    by_cases hm : rowsOk l = true
    · rw [if_neg (by simp [hm]), if_pos hm]
      cases l.find? (fun x => decide (x.Kind = k ∧ x.N = n)) <;> rfl
    · rw [if_pos hm, if_neg hm]
  · have e1 := wsucc (i := i) (by omega)
    simp only [novationref10_Get.l0, e1, decide_eq_true_eq]
    rw [if_pos (by omega), if_pos (by omega)]
    repeat' (first | with_reducible rfl | (exfalso; omega) | refine ifr (fun _ => ?_) (fun _ => ?_) | refine ifl (fun _ => ?_) (fun _ => ?_))
  · simp only [novationref10_Get.l0]; rw [if_neg (by omega)]
theorem getR_i64 {l : List api_Row} (hI : RowI l) (k n : Int) : I64 (getR l k n) := by
  unfold getR getOf
  split
  · split
    · rename_i x h
      obtain ⟨i, hi, rfl⟩ := mem_rd (List.mem_of_find?_eq_some h)
      exact hI i hi
    · decide
  · decide
end Go.Ax

/- LedgerAll: what is told of rows is true. -/
set_option linter.unusedVariables false
set_option linter.unusedSimpArgs false
set_option maxRecDepth 100000
set_option maxHeartbeats 4000000
namespace Go.Ax
open Go
theorem ledger_known : novationlaw12_known.f = some true := by decide +kernel
theorem hWide_of {w z : Int} (hw : Wid w) (hz : BigOk z) (h : w = z) : novationhelp_Wide.f w z = some true := by
  unfold novationhelp_Wide.f
  rw [if_pos ⟨hw, hz⟩, decide_eq_true h]
theorem ledgerAll_true {l : List api_Row} (hl : l.length < 281474976710656) (hI : RowI l) (k n : Int) : novationlaw12_LedgerAll.f l k n = some true := by
  unfold novationlaw12_LedgerAll.f
  rw [ledger_known, Option.bind_some, if_neg (by simp)]
  by_cases h80 : (l.length : Int) > 80
  · rw [if_pos h80]
  · rw [if_neg h80, ledger_Key_eq, rKey_eq]
    simp only [Option.bind_some, if_true]
    rw [ledger_Right_eq l (by omega), rRows_eq l (by omega), ledger_Get_eq l k n (by omega), rGet_eq l k n (by omega), ledger_Total_eq hI (by omega), rTotal_eq hI (by omega)]
    simp only [Option.bind_some, if_true]
    rw [hWide_of ?_ ?_ rfl]
    · rfl
    · split
      · exact (sum_wid (row_vals hI) (by rw [List.length_map]; omega)).1
      · decide
    · split
      · exact rowSum_big hI (by omega)
      · decide
end Go.Ax

/- StockAll: what is told of positions is true. -/
set_option linter.unusedVariables false
set_option linter.unusedSimpArgs false
set_option maxRecDepth 100000
set_option maxHeartbeats 4000000
namespace Go.Ax
open Go
theorem stock_known : novationlaw13_known.f = some true := by decide +kernel
theorem hWide_ofS {w z : Int} (hw : Wid w) (hz : BigOk z) (h : w = z) : novationhelp_Wide.f w z = some true := by
  unfold novationhelp_Wide.f
  rw [if_pos ⟨hw, hz⟩, decide_eq_true h]
/-- A position. -/
def heldOf (l : List api_Pos) (a n : Int) : Int := match l.find? (fun x => decide (x.Acc = a ∧ x.Inst = n)) with | some x => x.Q | none => 0
def heldR (l : List api_Pos) (a n : Int) : Int := if stockOk l = true then heldOf l a n else 0
theorem stock_Get_eq (l : List api_Pos) (a n : Int) (hl : l.length < 2 ^ 59) : stock_Get.f l a n = some (heldR l a n) := by
  have h := loop_find1 (fun q i => stock_Get.l0 l a n q i) l (fun x => decide (x.Acc = a ∧ x.Inst = n)) (fun x => x.Q) (l.length : Int) (fun q i hi => ?_) (fun k => ?_) hl
  · unfold stock_Get.f heldR heldOf
    rw [stock_Right_eq l hl, h]
    simp only [Option.bind_some]
    by_cases hm : stockOk l = true
    · rw [if_neg (by simp [hm]), if_pos hm]
      cases l.find? (fun x => decide (x.Acc = a ∧ x.Inst = n)) <;> rfl
    · rw [if_pos hm, if_neg hm]
  · have e1 := wsucc (i := i) (by omega)
    simp only [stock_Get.l0, e1, decide_eq_true_eq]
    rw [if_pos (by omega), if_pos (by omega)]
    repeat' (first | with_reducible rfl | (exfalso; omega) | refine ifr (fun _ => ?_) (fun _ => ?_) | refine ifl (fun _ => ?_) (fun _ => ?_))
  · simp only [stock_Get.l0]; rw [if_neg (by omega)]
theorem rHeld_eq (l : List api_Pos) (a n : Int) (hl : l.length < 2 ^ 59) : novationref10_Held.f l a n = some (heldR l a n) := by
  have h := loop_find1 (fun q i => novationref10_Held.l0 l a n q i) l (fun x => decide (x.Acc = a ∧ x.Inst = n)) (fun x => x.Q) (l.length : Int) (fun q i hi => ?_) (fun k => ?_) hl
  · unfold novationref10_Held.f heldR heldOf
    rw [rStock_eq l hl, h]
    simp only [Option.bind_some]
    by_cases hm : stockOk l = true
    · rw [if_neg (by simp [hm]), if_pos hm]
      cases l.find? (fun x => decide (x.Acc = a ∧ x.Inst = n)) <;> rfl
    · rw [if_pos hm, if_neg hm]
  · have e1 := wsucc (i := i) (by omega)
    simp only [novationref10_Held.l0, e1, decide_eq_true_eq]
    rw [if_pos (by omega), if_pos (by omega)]
    repeat' (first | with_reducible rfl | (exfalso; omega) | refine ifr (fun _ => ?_) (fun _ => ?_) | refine ifl (fun _ => ?_) (fun _ => ?_))
  · simp only [novationref10_Held.l0]; rw [if_neg (by omega)]
/-- What moves all of an account. -/
def shiftsOf (acc to : Int) (l : List api_Leg) : List api_Shift := l.flatMap fun x => [⟨acc, x.Inst, IntKind.i64.wrap (0 - x.Q)⟩, ⟨to, x.Inst, x.Q⟩]
theorem flat2_len {α β : Type} (f g : α → β) (l : List α) : (l.flatMap fun x => [f x, g x]).length = 2 * l.length := by
  induction l with
  | nil => rfl
  | cons x l ih => rw [List.flatMap_cons, List.length_append, ih]; simp; omega
def allOf (l : List api_Pos) (acc to : Int) : List api_Shift := if stockOk l = true ∧ 0 ≤ acc ∧ acc ≤ 24 ∧ 0 ≤ to ∧ to ≤ 24 ∧ acc ≠ to then shiftsOf acc to (legsOf l acc) else []
theorem legsOf_len (l : List api_Pos) (acc : Int) : (legsOf l acc).length ≤ l.length := by unfold legsOf; rw [List.length_map]; exact List.length_filter_le _ _
theorem stock_All_eq {l : List api_Pos} (acc to : Int) (hl : l.length < 2 ^ 32) : stock_All.f l acc to = some (allOf l acc to) := by
  unfold stock_All.f allOf
  rw [stock_Right_eq l (by omega), stock_key_eq, stock_key_eq, stock_Of_eq acc hl]
  simp only [Option.bind_some, decide_eq_true_eq]
  by_cases h1 : stockOk l = true
  · rw [if_neg (by simp [h1]), if_pos h1]
    have hlen := legsOf_len l acc
    have h := loop_gather (fun k s i => stock_All.l0 acc to (legsOf l acc) k s i) (legsOf l acc) (fun x => [(⟨acc, x.Inst, IntKind.i64.wrap (0 - x.Q)⟩ : api_Shift), ⟨to, x.Inst, x.Q⟩]) (fun k i s hi e => ?_) (fun k s => ?_) (by omega)
    · rw [h, Option.bind_some]
      simp only
      by_cases h2 : 0 ≤ acc ∧ acc ≤ 24
      · by_cases h3 : 0 ≤ to ∧ to ≤ 24
        · by_cases h4 : acc = to
          · rw [if_neg (by simp; omega), if_neg (by simp; omega), if_pos h4, if_neg (by omega)]
          · rw [if_neg (by simp; omega), if_neg (by simp; omega), if_neg h4, if_pos ⟨h1, h2.1, h2.2, h3.1, h3.2, h4⟩]; rfl
        · rw [if_neg (by simp; omega), if_pos (by omega), if_neg (by omega)]
      · rw [if_pos (by omega), if_neg (by omega)]
    · have e1 := wsucc (i := i) (by omega)
      have hs : s.length ≤ 2 * i := by rw [e, flat2_len, List.length_take]; omega
      simp only [stock_All.l0, e1]
      rw [if_pos (by omega), if_pos (by omega), if_pos (by omega)]
    · simp only [stock_All.l0]; rw [if_neg (by omega)]
  · rw [if_pos h1, if_neg (fun h => h1 h.1)]
theorem flatMap_filter {α β : Type} (p : α → Prop) [DecidablePred p] (f : α → List β) (l : List α) : l.flatMap (fun x => if p x then f x else []) = (l.filter (fun x => decide (p x))).flatMap f := by
  induction l with
  | nil => rfl
  | cons x l ih =>
    rw [List.flatMap_cons, ih]
    by_cases h : p x <;> simp [h]
theorem rAll_eq {l : List api_Pos} (acc to : Int) (hl : l.length < 2 ^ 32) : novationref10_All.f l acc to = some (allOf l acc to) := by
  unfold novationref10_All.f allOf
  rw [rStock_eq l (by omega), Option.bind_some]
  by_cases h1 : stockOk l = true
  · rw [if_neg (by simp [h1])]
    have h := loop_gather (fun k s i => novationref10_All.l0 l acc to k s i) l (fun x => if x.Acc = acc then [(⟨acc, x.Inst, IntKind.i64.wrap (0 - x.Q)⟩ : api_Shift), ⟨to, x.Inst, x.Q⟩] else []) (fun k i s hi e => ?_) (fun k s => ?_) (by omega)
    · rw [h, Option.bind_some]
      simp only
      have e : l.flatMap (fun x => if x.Acc = acc then [(⟨acc, x.Inst, IntKind.i64.wrap (0 - x.Q)⟩ : api_Shift), ⟨to, x.Inst, x.Q⟩] else []) = shiftsOf acc to (legsOf l acc) := by
        rw [flatMap_filter (fun x : api_Pos => x.Acc = acc)]
        unfold shiftsOf legsOf
        rw [List.flatMap_map]
      rw [e]
      by_cases hc : 0 ≤ acc ∧ acc ≤ 24 ∧ 0 ≤ to ∧ to ≤ 24 ∧ acc ≠ to
      · rw [if_neg hc.2.2.2.2, if_neg (by omega), if_neg (by omega), if_neg (by omega), if_neg (by omega), if_pos ⟨h1, hc⟩]
      · rw [if_neg (c := _ ∧ _) (fun h => hc h.2)]
        repeat' (first | with_reducible rfl | refine ifr (fun _ => ?_) (fun _ => ?_))
        all_goals (exfalso; omega)
    · have e1 := wsucc (i := i) (by omega)
      have hs : s.length ≤ 2 * i := by
        rw [e, flatMap_filter (fun x : api_Pos => x.Acc = acc), flat2_len]
        have := List.length_filter_le (fun x : api_Pos => decide (x.Acc = acc)) (l.take i)
        rw [List.length_take] at this
        omega
      simp only [novationref10_All.l0, e1]
      rw [if_pos (by omega), if_pos (by omega)]
      by_cases h : (rd l (i : Int)).Acc = acc
      · rw [if_pos h, if_pos h, if_pos (by omega)]
      · rw [if_neg h, if_neg h, List.append_nil]
    · simp only [novationref10_All.l0]; rw [if_neg (by omega)]
  · rw [if_pos h1, if_neg (fun h => h1 h.1)]
theorem all_trueS {n : Nat} {σ : Type} (L : Nat → Int → Option (Flow σ Bool)) (e : σ) (h : ∀ k (i : Nat), i < n → L (k + 1) i = L k ((i + 1 : Nat) : Int)) (h2 : ∀ k, L (k + 1) (n : Int) = some (.out e)) (hn : n < 2 ^ 59) :
    ((L FUEL 0).bind fun f => f.go fun _ => some true) = some true := by
  rw [loop_allg L n (fun _ => True) false e _ (fun k i hi _ => h k i hi) (fun k i hi hP => absurd trivial hP) h2 hn, if_pos (fun _ _ => trivial)]
theorem hLegs_eq (l : List api_Leg) (hl : l.length < 2 ^ 59) : novationhelp_Legs.f l l = some true := by
  unfold novationhelp_Legs.f
  rw [if_neg (fun h => h rfl)]
  refine all_trueS (fun k i => novationhelp_Legs.l0 l l k i) (l.length : Int) (n := l.length) (fun k i hi => ?_) (fun k => by simp only [novationhelp_Legs.l0]; rw [if_neg (by omega)]) hl
  simp only [novationhelp_Legs.l0, wsucc (i := i) (by omega)]
  rw [if_pos (by omega), if_pos (by omega), if_pos (by omega), if_neg (by simp)]
theorem hShifts_eq (l : List api_Shift) (hl : l.length < 2 ^ 59) : novationhelp_Shifts.f l l = some true := by
  unfold novationhelp_Shifts.f
  rw [if_neg (fun h => h rfl)]
  refine all_trueS (fun k i => novationhelp_Shifts.l0 l l k i) (l.length : Int) (n := l.length) (fun k i hi => ?_) (fun k => by simp only [novationhelp_Shifts.l0]; rw [if_neg (by omega)]) hl
  simp only [novationhelp_Shifts.l0, wsucc (i := i) (by omega)]
  rw [if_pos (by omega), if_pos (by omega), if_pos (by omega), if_neg (by simp)]
theorem stockAll_true {l : List api_Pos} (hl : l.length < 281474976710656) (hI : PosI l) (acc to inst : Int) : novationlaw13_StockAll.f l acc to inst = some true := by
  unfold novationlaw13_StockAll.f
  rw [stock_known, Option.bind_some, if_neg (by simp)]
  by_cases h160 : (l.length : Int) > 160
  · rw [if_pos h160]
  · have hlegs := legsOf_len l acc
    have hsh : (allOf l acc to).length ≤ 2 * l.length := by
      unfold allOf
      split
      · unfold shiftsOf; rw [flat2_len]; omega
      · simp
    rw [if_neg h160, stock_Right_eq l (by omega), rStock_eq l (by omega), stock_Get_eq l _ _ (by omega), rHeld_eq l _ _ (by omega), stock_Of_eq acc (by omega), rOf_eq acc (by omega), stock_Sum_eq inst hI (by omega), rSumInst_eq inst hI (by omega),
      stock_Flat_eq hI (by omega), rFlat_eq hI (by omega), stock_All_eq acc to (by omega), rAll_eq acc to (by omega)]
    simp only [Option.bind_some, if_true]
    rw [hLegs_eq _ (by split <;> simp <;> omega), hShifts_eq _ (by omega), hWide_ofS ?_ ?_ rfl]
    · rfl
    · split
      · exact (sum_wid (stock_vals hI inst) (by rw [List.length_map]; exact Nat.lt_of_le_of_lt (List.length_filter_le _ _) (by omega))).1
      · decide
    · split
      · exact stockSum_big inst hI (by omega)
      · decide
end Go.Ax
