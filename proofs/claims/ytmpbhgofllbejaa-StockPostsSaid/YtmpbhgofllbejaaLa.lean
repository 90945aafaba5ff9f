/- Loops of printed functions, in plain terms. -/
import Derived.Test.YtmpbhgofllbejaaGa
set_option linter.unusedVariables false
set_option linter.unusedSimpArgs false
set_option linter.unusedVariables false
set_option linter.unusedSimpArgs false
namespace Go.Ax
open Go
theorem wsucc {i : Nat} (h : i < 2 ^ 60) : IntKind.i64.wrap ((i : Int) + 1) = ((i + 1 : Nat) : Int) := by rw [i64_wrap _ (by omega) (by omega)]; omega
theorem wpred {i : Nat} (h : i < 2 ^ 60) : IntKind.i64.wrap ((i : Int) - 1) = (i : Int) - 1 := i64_wrap _ (by omega) (by omega)
theorem FUEL_big {n : Nat} (h : n < 2 ^ 59) : n < FUEL := by unfold FUEL; omega
theorem rd_nat {α : Type} [Inhabited α] (l : List α) (i : Nat) : rd l (i : Int) = l[i]?.getD default := by simp [rd]
theorem rd_get {α : Type} [Inhabited α] (l : List α) {i : Nat} (h : i < l.length) : rd l (i : Int) = l[i] := by simp [rd, h]
/-- A loop that tells r at the first bad place. -/
theorem loop_all {σ ρ : Type} (L : Nat → Int → Option (Flow σ ρ)) (n : Nat) (P : Nat → Bool) (r : ρ) (e : σ) (h0 : ∀ k (i : Nat), i < n → P i = true → L (k + 1) i = L k ((i + 1 : Nat) : Int))
    (h1 : ∀ k (i : Nat), i < n → P i = false → L (k + 1) i = some (.ret r)) (h2 : ∀ k, L (k + 1) (n : Int) = some (.out e)) (hn : n < 2 ^ 59) :
    L FUEL 0 = some (if (List.range n).all P = true then .out e else .ret r) := by
  have key : ∀ (d i k : Nat), i + d = n → d < k → L k (i : Int) = some (if (List.range' i d).all P = true then .out e else .ret r) := by
    intro d
    induction d with
    | zero =>
      intro i k hi hk
      obtain ⟨k, rfl⟩ : ∃ m, k = m + 1 := ⟨k - 1, by omega⟩
      have : i = n := by omega
      subst this
      rw [h2]; simp
    | succ d ih =>
      intro i k hi hk
      obtain ⟨k, rfl⟩ : ∃ m, k = m + 1 := ⟨k - 1, by omega⟩
      cases hp : P i with
      | true => rw [h0 k i (by omega) hp, ih (i + 1) k (by omega) (by omega), List.range'_succ, List.all_cons, hp, Bool.true_and]
      | false => rw [h1 k i (by omega) hp, List.range'_succ, List.all_cons, hp, Bool.false_and]; rfl
  have := key n 0 FUEL (by omega) (FUEL_big hn)
  rw [← List.range_eq_range'] at this
  exact this
/-- n steps. -/
def itr {σ : Type} (g : Nat → σ → σ) : Nat → σ → σ
  | 0, s => s
  | n + 1, s => g n (itr g n s)
/-- A loop that goes through to its end. -/
theorem loop_fold {σ R : Type} (L : Nat → Int → σ → Option R) (n : Nat) (g : Nat → σ → σ) (I : Nat → σ → Prop) (E : σ → R) (s0 : σ)
    (hs : ∀ k (i : Nat) s, i < n → I i s → L (k + 1) i s = L k ((i + 1 : Nat) : Int) (g i s) ∧ I (i + 1) (g i s)) (he : ∀ k s, I n s → L (k + 1) (n : Int) s = some (E s)) (h0 : I 0 s0) (hn : n < 2 ^ 59) :
    L FUEL 0 s0 = some (E (itr g n s0)) ∧ I n (itr g n s0) := by
  have inv : ∀ i, i ≤ n → I i (itr g i s0) := by
    intro i
    induction i with
    | zero => intro _; exact h0
    | succ i ih => intro hi; exact (hs 0 i _ (by omega) (ih (by omega))).2
  have key : ∀ (d i k : Nat), i + d = n → d < k → L k (i : Int) (itr g i s0) = some (E (itr g n s0)) := by
    intro d
    induction d with
    | zero =>
      intro i k hi hk
      obtain ⟨k, rfl⟩ : ∃ m, k = m + 1 := ⟨k - 1, by omega⟩
      have : i = n := by omega
      subst this
      exact he k _ (inv i (by omega))
    | succ d ih =>
      intro i k hi hk
      obtain ⟨k, rfl⟩ : ∃ m, k = m + 1 := ⟨k - 1, by omega⟩
      rw [(hs k i _ (by omega) (inv i (by omega))).1]
      exact ih (i + 1) k (by omega) (by omega)
  exact ⟨key n 0 FUEL (by omega) (FUEL_big hn), inv n (Nat.le_refl n)⟩
/-- A loop that goes through, or stops at some place with an answer. -/
theorem loop_find {σ ρ : Type} (L : Nat → Int → Option (Flow σ ρ)) (n : Nat) (P : Nat → Bool) (r : Nat → ρ) (e : σ) (h0 : ∀ k (i : Nat), i < n → P i = false → L (k + 1) i = L k ((i + 1 : Nat) : Int))
    (h1 : ∀ k (i : Nat), i < n → P i = true → L (k + 1) i = some (.ret (r i))) (h2 : ∀ k, L (k + 1) (n : Int) = some (.out e)) (hn : n < 2 ^ 59) :
    L FUEL 0 = some (match (List.range n).find? P with | some i => .ret (r i) | none => .out e) := by
  have key : ∀ (d i k : Nat), i + d = n → d < k → L k (i : Int) = some (match (List.range' i d).find? P with | some i => .ret (r i) | none => .out e) := by
    intro d
    induction d with
    | zero =>
      intro i k hi hk
      obtain ⟨k, rfl⟩ : ∃ m, k = m + 1 := ⟨k - 1, by omega⟩
      have : i = n := by omega
      subst this
      rw [h2]; simp
    | succ d ih =>
      intro i k hi hk
      obtain ⟨k, rfl⟩ : ∃ m, k = m + 1 := ⟨k - 1, by omega⟩
      cases hp : P i with
      | false => rw [h0 k i (by omega) hp, ih (i + 1) k (by omega) (by omega), List.range'_succ, List.find?_cons, hp]
      | true => rw [h1 k i (by omega) hp, List.range'_succ, List.find?_cons, hp]
  have := key n 0 FUEL (by omega) (FUEL_big hn)
  rw [← List.range_eq_range'] at this
  exact this
theorem flow_if {σ ρ : Type} (c : Prop) [Decidable c] (e : σ) (r : ρ) (k : σ → Option ρ) : ((if c then Flow.out e else Flow.ret r : Flow σ ρ).go k) = if c then k e else some r := by split <;> rfl
theorem ifr {α : Type} {c : Prop} [Decidable c] {A B r : α} (h1 : c → A = r) (h2 : ¬c → B = r) : (if c then A else B) = r := by
  by_cases h : c
  · rw [if_pos h]; exact h1 h
  · rw [if_neg h]; exact h2 h
theorem all_range_iff {n : Nat} {P : Nat → Bool} : (List.range n).all P = true ↔ ∀ i, i < n → P i = true := by simp [List.all_eq_true]
theorem bigOk_of {z : Int} (h : z.natAbs < 2 ^ 250) : BigOk z := by
  have : (2 : Nat) ^ 250 ≤ BB ^ 12 := by decide
  unfold BigOk; omega
end Go.Ax

/- More on loops of printed functions, in plain terms. -/
set_option linter.unusedVariables false
set_option linter.unusedSimpArgs false
namespace Go.Ax
open Go
/-- A loop with a measure and an invariant. -/
theorem loop_inv {S R : Type} (L : Nat → S → Option R) (Inv : S → Prop) (μ : S → Nat) (Q : R → Prop)
    (h : ∀ k s, Inv s → (∃ s', L (k + 1) s = L k s' ∧ Inv s' ∧ μ s' < μ s) ∨ (∃ r, L (k + 1) s = some r ∧ Q r)) {s0 : S} (h0 : Inv s0) (hm : μ s0 < 2 ^ 59) :
    ∃ r, L FUEL s0 = some r ∧ Q r := by
  have key : ∀ (d : Nat) (s : S) (k : Nat), Inv s → μ s ≤ d → d < k → ∃ r, L k s = some r ∧ Q r := by
    intro d
    induction d with
    | zero =>
      intro s k hi hd hk
      obtain ⟨k, rfl⟩ : ∃ m, k = m + 1 := ⟨k - 1, by omega⟩
      rcases h k s hi with ⟨s', _, _, hm⟩ | h
      · omega
      · exact h
    | succ d ih =>
      intro s k hi hd hk
      obtain ⟨k, rfl⟩ : ∃ m, k = m + 1 := ⟨k - 1, by omega⟩
      rcases h k s hi with ⟨s', e, hi', hm⟩ | h
      · rw [e]; exact ih s' k hi' (by omega) (by omega)
      · exact h
  exact key (μ s0) s0 FUEL h0 (Nat.le_refl _) (FUEL_big hm)
theorem take_succ_rd {α : Type} [Inhabited α] (l : List α) {i : Nat} (h : i < l.length) : l.take (i + 1) = l.take i ++ [rd l (i : Int)] := by
  rw [rd_get l h, List.take_succ_eq_append_getElem h]
theorem rd_mem {α : Type} [Inhabited α] {l : List α} {i : Nat} (h : i < l.length) : rd l (i : Int) ∈ l := by rw [rd_get l h]; exact List.getElem_mem _
/-- A loop over a list that gathers; the state ahead of the place. -/
theorem loop_gather {α β : Type} [Inhabited α] (L : Nat → List β → Int → Option (List β × Int)) (l : List α) (g : α → List β)
    (hs : ∀ k (i : Nat) s, i < l.length → s = (l.take i).flatMap g → L (k + 1) s i = L k (s ++ g (rd l (i : Int))) ((i + 1 : Nat) : Int))
    (he : ∀ k s, L (k + 1) s (l.length : Int) = some (s, (l.length : Int))) (hn : l.length < 2 ^ 59) :
    L FUEL [] 0 = some (l.flatMap g, (l.length : Int)) := by
  obtain ⟨r, h1, h2⟩ := loop_inv (fun k (p : List β × Nat) => L k p.1 (p.2 : Int)) (fun p => p.2 ≤ l.length ∧ p.1 = (l.take p.2).flatMap g) (fun p => l.length - p.2) (fun r => r = (l.flatMap g, (l.length : Int)))
    (fun k p hp => by
      obtain ⟨s, i⟩ := p
      obtain ⟨hi, hs'⟩ := hp
      by_cases h : i < l.length
      · refine .inl ⟨(s ++ g (rd l (i : Int)), i + 1), hs k i s h hs', ⟨h, ?_⟩, by simp only; omega⟩
        simp only at hs' ⊢
        rw [take_succ_rd l h, List.flatMap_append, ← hs']
        simp
      · have e : i = l.length := by simp only at hi; omega
        subst e
        refine .inr ⟨_, he k s, ?_⟩
        simp only at hs' ⊢
        rw [hs', List.take_length]) (s0 := ([], 0)) ⟨Nat.zero_le _, by simp⟩ (by simp only; omega)
  rw [show ((0 : Nat) : Int) = 0 from rfl] at h1
  rw [h1, h2]
theorem flatMap_if {α β : Type} (p : α → Prop) [DecidablePred p] (f : α → β) (l : List α) : l.flatMap (fun x => if p x then [f x] else []) = (l.filter (fun x => decide (p x))).map f := by
  induction l with
  | nil => rfl
  | cons x l ih =>
    rw [List.flatMap_cons, ih]
    by_cases h : p x <;> simp [h]
theorem flatMap_one {α β : Type} (f : α → β) (l : List α) : l.flatMap (fun x => [f x]) = l.map f := by
  induction l with
  | nil => rfl
  | cons x l ih => rw [List.flatMap_cons, ih]; rfl
theorem flatMap_if_len {α β : Type} (p : α → Prop) [DecidablePred p] (f : α → β) (l : List α) : (l.flatMap (fun x => if p x then [f x] else [])).length ≤ l.length := by
  rw [flatMap_if, List.length_map]; exact List.length_filter_le _ _
/-- A loop over a list that sums up. -/
theorem loop_sum {α σ : Type} [Inhabited α] (L : Nat → σ → Int → Option (σ × Int)) (l : List α) (g : σ → α → σ) (I : Nat → σ → Prop) (s0 : σ) (h0 : I 0 s0)
    (hs : ∀ k (i : Nat) s, i < l.length → I i s → s = (l.take i).foldl g s0 → L (k + 1) s i = L k (g s (rd l (i : Int))) ((i + 1 : Nat) : Int) ∧ I (i + 1) (g s (rd l (i : Int))))
    (he : ∀ k s, L (k + 1) s (l.length : Int) = some (s, (l.length : Int))) (hn : l.length < 2 ^ 59) :
    L FUEL s0 0 = some (l.foldl g s0, (l.length : Int)) := by
  obtain ⟨r, h1, h2⟩ := loop_inv (fun k (p : σ × Nat) => L k p.1 (p.2 : Int)) (fun p => p.2 ≤ l.length ∧ I p.2 p.1 ∧ p.1 = (l.take p.2).foldl g s0) (fun p => l.length - p.2) (fun r => r = (l.foldl g s0, (l.length : Int)))
    (fun k p hp => by
      obtain ⟨s, i⟩ := p
      obtain ⟨hi, hI, hs'⟩ := hp
      by_cases h : i < l.length
      · obtain ⟨e, hI'⟩ := hs k i s h hI hs'
        refine .inl ⟨(g s (rd l (i : Int)), i + 1), e, ⟨h, hI', ?_⟩, by simp only; omega⟩
        simp only at hs' ⊢
        rw [take_succ_rd l h, List.foldl_append, ← hs']
        rfl
      · have e : i = l.length := by simp only at hi; omega
        subst e
        refine .inr ⟨_, he k s, ?_⟩
        simp only at hs' ⊢
        rw [hs', List.take_length]) (s0 := (s0, 0)) ⟨Nat.zero_le _, h0, by simp⟩ (by simp only; omega)
  rw [show ((0 : Nat) : Int) = 0 from rfl] at h1
  rw [h1, h2]
theorem foldl_add_sum (l : List Int) (s : Int) : l.foldl (· + ·) s = s + l.sum := by
  induction l generalizing s with
  | nil => simp
  | cons x l ih => rw [List.foldl_cons, ih, List.sum_cons]; omega
/-- A loop that tells r at the first bad place: one obligation. -/
theorem loop_all1 {σ ρ : Type} (L : Nat → Int → Option (Flow σ ρ)) (n : Nat) (P : Nat → Prop) [DecidablePred P] (r : ρ) (e : σ)
    (h : ∀ k (i : Nat), i < n → L (k + 1) i = if P i then L k ((i + 1 : Nat) : Int) else some (.ret r)) (h2 : ∀ k, L (k + 1) (n : Int) = some (.out e)) (hn : n < 2 ^ 59) :
    L FUEL 0 = some (if (∀ i, i < n → P i) then .out e else .ret r) := by
  rw [loop_all L n (fun i => decide (P i)) r e (fun k i hi hp => by rw [h k i hi, if_pos (of_decide_eq_true hp)]) (fun k i hi hp => by rw [h k i hi, if_neg (of_decide_eq_false hp)]) h2 hn]
  by_cases hA : ∀ i, i < n → P i
  · rw [if_pos hA, if_pos (all_range_iff.2 fun i hi => decide_eq_true (hA i hi))]
  · rw [if_neg hA, if_neg (fun h => hA fun i hi => of_decide_eq_true (all_range_iff.1 h i hi))]
theorem ifl {α : Type} {c : Prop} [Decidable c] {A B r : α} (h1 : c → r = A) (h2 : ¬c → r = B) : r = (if c then A else B) := (ifr (fun h => (h1 h).symm) (fun h => (h2 h).symm)).symm
theorem if_dec (c : Prop) [Decidable c] : (if c then some true else some false : Option Bool) = some (decide c) := by by_cases h : c <;> simp [h]
/-- The same, with what follows the loop. -/
theorem loop_allg {σ ρ : Type} (L : Nat → Int → Option (Flow σ ρ)) (n : Nat) (P : Nat → Prop) [DecidablePred P] (r : ρ) (e : σ) (K : σ → Option ρ)
    (h1 : ∀ k (i : Nat), i < n → P i → L (k + 1) i = L k ((i + 1 : Nat) : Int)) (h0 : ∀ k (i : Nat), i < n → ¬P i → L (k + 1) i = some (.ret r)) (h2 : ∀ k, L (k + 1) (n : Int) = some (.out e)) (hn : n < 2 ^ 59) :
    ((L FUEL 0).bind fun f => f.go K) = if (∀ i, i < n → P i) then K e else some r := by
  rw [loop_all1 L n P r e (fun k i hi => by
    by_cases hp : P i
    · rw [if_pos hp]; exact h1 k i hi hp
    · rw [if_neg hp]; exact h0 k i hi hp) h2 hn, Option.bind_some, flow_if]
theorem find_range {α : Type} [Inhabited α] (l : List α) (p : α → Bool) : ((List.range l.length).find? fun i : Nat => p (rd l (i : Int))).map (fun i : Nat => rd l (i : Int)) = l.find? p := by
  induction l with
  | nil => rfl
  | cons x l ih =>
    rw [List.length_cons, List.range_succ_eq_map, List.find?_cons, List.find?_cons, List.find?_map]
    have e0 : rd (x :: l) ((0 : Nat) : Int) = x := by simp [rd]
    rw [e0]
    cases p x with
    | true => exact congrArg some e0
    | false =>
      simp only [Option.map_map]
      rw [← ih]
      have e : ∀ i : Nat, rd (x :: l) ((i.succ : Nat) : Int) = rd l (i : Int) := fun i => by simp [rd]
      simp only [Function.comp_def, e]
/-- A loop that stops at the first place of a list that is looked for: one obligation. -/
theorem loop_find1 {α σ ρ : Type} [Inhabited α] (L : Nat → Int → Option (Flow σ ρ)) (l : List α) (p : α → Bool) (r : α → ρ) (e : σ)
    (h : ∀ k (i : Nat), i < l.length → L (k + 1) i = if p (rd l (i : Int)) = true then some (.ret (r (rd l (i : Int)))) else L k ((i + 1 : Nat) : Int)) (h2 : ∀ k, L (k + 1) (l.length : Int) = some (.out e)) (hn : l.length < 2 ^ 59) :
    L FUEL 0 = some (match l.find? p with | some x => .ret (r x) | none => .out e) := by
  rw [loop_find L l.length (fun i => p (rd l (i : Int))) (fun i => r (rd l (i : Int))) e (fun k i hi hp => by rw [h k i hi, if_neg (by simp [hp])]) (fun k i hi hp => by rw [h k i hi, if_pos hp]) h2 hn, ← find_range l p]
  cases (List.range l.length).find? fun i : Nat => p (rd l (i : Int)) <;> rfl
theorem flow_find {α σ ρ : Type} (o : Option α) (r : α → ρ) (e : σ) (K : σ → Option ρ) : ((match o with | some x => Flow.ret (r x) | none => Flow.out e : Flow σ ρ).go K) = match o with | some x => some (r x) | none => K e := by cases o <;> rfl
theorem flow_ifL {σ ρ τ : Type} (c : Prop) [Decidable c] (e : σ) (r : ρ) (k : σ → Option (Flow τ ρ)) : ((if c then Flow.out e else Flow.ret r : Flow σ ρ).goL k) = if c then k e else some (.ret r) := by split <;> rfl
/-- Alike, one by one. -/
theorem eq_of_rd {α : Type} [Inhabited α] {a b : List α} (h : a.length = b.length) (h2 : ∀ i, i < a.length → rd a (i : Int) = rd b (i : Int)) : a = b := by
  apply List.ext_getElem h
  intro i h1 h2'
  have := h2 i h1
  rwa [rd_get a h1, rd_get b h2'] at this
/-- A loop over a list that gathers, with an end of its own. -/
theorem loop_gatherE {α β : Type} [Inhabited α] (L : Nat → List β → Int → Option (List β × Int)) (l : List α) (g : α → List β) (e : Int)
    (hs : ∀ k (i : Nat) s, i < l.length → s = (l.take i).flatMap g → L (k + 1) s i = L k (s ++ g (rd l (i : Int))) ((i + 1 : Nat) : Int))
    (he : ∀ k s, L (k + 1) s (l.length : Int) = some (s, e)) (hn : l.length < 2 ^ 59) :
    L FUEL [] 0 = some (l.flatMap g, e) := by
  obtain ⟨r, h1, h2⟩ := loop_inv (fun k (p : List β × Nat) => L k p.1 (p.2 : Int)) (fun p => p.2 ≤ l.length ∧ p.1 = (l.take p.2).flatMap g) (fun p => l.length - p.2) (fun r => r = (l.flatMap g, e))
    (fun k p hp => by
      obtain ⟨s, i⟩ := p
      obtain ⟨hi, hs'⟩ := hp
      by_cases h : i < l.length
      · refine .inl ⟨(s ++ g (rd l (i : Int)), i + 1), hs k i s h hs', ⟨h, ?_⟩, by simp only; omega⟩
        simp only at hs' ⊢
        rw [take_succ_rd l h, List.flatMap_append, ← hs']
        simp
      · have e : i = l.length := by simp only at hi; omega
        subst e
        refine .inr ⟨_, he k s, ?_⟩
        simp only at hs' ⊢
        rw [hs', List.take_length]) (s0 := ([], 0)) ⟨Nat.zero_le _, by simp⟩ (by simp only; omega)
  rw [show ((0 : Nat) : Int) = 0 from rfl] at h1
  rw [h1, h2]
/-- Numbers that rise are each there once. -/
theorem rise_lt {α : Type} [Inhabited α] {l : List α} (f : α → Int) (h : ∀ i : Nat, i < l.length → 0 < i → f (rd l ((i : Int) - 1)) < f (rd l (i : Int))) : ∀ d i : Nat, i + d + 1 < l.length → f (rd l (i : Int)) < f (rd l ((i + d + 1 : Nat) : Int)) := by
  intro d
  induction d with
  | zero =>
    intro i hi
    have h2 := h (i + 1) hi (by omega)
    rwa [show ((i + 1 : Nat) : Int) - 1 = (i : Int) by omega] at h2
  | succ d ih =>
    intro i hi
    have h1 := ih i (by omega)
    have h2 := h (i + d + 2) hi (by omega)
    rw [show ((i + d + 2 : Nat) : Int) - 1 = ((i + d + 1 : Nat) : Int) by omega] at h2
    exact Int.lt_trans h1 h2
theorem rd_of_mem {α : Type} [Inhabited α] {l : List α} {x : α} (h : x ∈ l) : ∃ i, i < l.length ∧ x = rd l (i : Int) := by
  obtain ⟨i, hi, e⟩ := List.mem_iff_getElem.1 h
  exact ⟨i, hi, by rw [rd_get l hi, e]⟩
theorem rise_one {α : Type} [Inhabited α] {l : List α} (f : α → Int) (h : ∀ i : Nat, i < l.length → 0 < i → f (rd l ((i : Int) - 1)) < f (rd l (i : Int))) {x y : α} (hx : x ∈ l) (hy : y ∈ l) (e : f x = f y) : x = y := by
  obtain ⟨i, hi, rfl⟩ := rd_of_mem hx
  obtain ⟨j, hj, rfl⟩ := rd_of_mem hy
  by_cases h1 : i = j
  · subst h1; rfl
  · by_cases h2 : i < j
    · have := rise_lt f h (j - i - 1) i (by omega)
      rw [show i + (j - i - 1) + 1 = j by omega] at this
      omega
    · have := rise_lt f h (i - j - 1) j (by omega)
      rw [show j + (i - j - 1) + 1 = i by omega] at this
      omega
theorem fold_last {α : Type} (p : α → Bool) (g : α → Int) (v : Int) (l : List α) (h : ∀ y ∈ l, p y = true → g y = v) (t : Int × Bool) : l.foldl (fun t x => if p x = true then (g x, true) else t) t = if l.any p = true then (v, true) else t := by
  induction l generalizing t with
  | nil => simp
  | cons x l ih =>
    rw [List.foldl_cons, ih (fun y hy => h y (List.mem_cons_of_mem _ hy)), List.any_cons]
    cases hx : p x with
    | true =>
      rw [h x (List.mem_cons_self ..) hx]
      simp
    | false => simp
theorem foldl_or {α : Type} (p : α → Bool) (l : List α) (b : Bool) : l.foldl (fun t x => t || p x) b = (b || l.any p) := by
  induction l generalizing b with
  | nil => simp
  | cons x l ih => rw [List.foldl_cons, ih, List.any_cons, Bool.or_assoc]
/-- The place of the first one that is looked for. -/
theorem index_gen {α : Type} [Inhabited α] (L : Nat → Int → Option (Flow Int Int)) (l : List α) (p : α → Bool)
    (h : ∀ k (i : Nat), i < l.length → L (k + 1) i = if p (rd l (i : Int)) = true then some (.ret (i : Int)) else L k ((i + 1 : Nat) : Int)) (h2 : ∀ k, L (k + 1) (l.length : Int) = some (.out (l.length : Int))) (hn : l.length < 2 ^ 59) :
    ∃ r, ((L FUEL 0).bind fun f => f.go fun _ => some (-1)) = some r ∧ (0 ≤ r ↔ l.any p = true) := by
  have hf := loop_find L l.length (fun i => p (rd l (i : Int))) (fun i => (i : Int)) (l.length : Int) (fun k i hi hp => by rw [h k i hi, if_neg (by simp [hp])]) (fun k i hi hp => by rw [h k i hi, if_pos hp]) h2 hn
  rw [hf]
  cases e : (List.range l.length).find? (fun i : Nat => p (rd l (i : Int))) with
  | none =>
    refine ⟨-1, rfl, ⟨fun h => absurd h (by omega), fun h => ?_⟩⟩
    obtain ⟨x, hx, hp⟩ := List.any_eq_true.1 h
    obtain ⟨i, hi, rfl⟩ := rd_of_mem hx
    have := List.find?_eq_none.1 e i (List.mem_range.2 hi)
    rw [hp] at this
    exact absurd rfl this
  | some i =>
    have h1 := List.find?_some e
    have h3 := List.mem_range.1 (List.mem_of_find?_eq_some e)
    exact ⟨(i : Int), rfl, ⟨fun _ => List.any_eq_true.2 ⟨_, rd_mem h3, h1⟩, fun _ => by omega⟩⟩
end Go.Ax

/- Lists that rise by a key. -/
set_option linter.unusedVariables false
set_option linter.unusedSimpArgs false
set_option maxRecDepth 100000
namespace Go.Ax
open Go
section
variable {α : Type} (ck : α → Nat) (v : α → Int)
def SortK (l : List α) : Prop := l.Pairwise fun x y => ck x < ck y
def HasK (l : List α) (c : Nat) : Prop := ∃ x ∈ l, ck x = c
def valK (l : List α) (c : Nat) : Int := match l.find? (fun x => decide (ck x = c)) with | some x => v x | none => 0
def upTo (l : List α) (c : Nat) : List α := l.takeWhile fun x => decide (ck x < c)
def from' (l : List α) (c : Nat) : List α := l.dropWhile fun x => decide (ck x < c)
variable {ck v}
theorem up_from (l : List α) (c : Nat) : upTo ck l c ++ from' ck l c = l := List.takeWhile_append_dropWhile
theorem up_lt {l : List α} {c : Nat} {x : α} (h : x ∈ upTo ck l c) : ck x < c := by
  have : ∀ l : List α, x ∈ upTo ck l c → ck x < c := by
    intro l
    induction l with
    | nil => intro h; cases h
    | cons y l ih =>
      intro h
      unfold upTo at h
      rw [List.takeWhile_cons] at h
      split at h
      · rename_i hy
        rcases List.mem_cons.1 h with rfl | h
        · exact of_decide_eq_true hy
        · exact ih h
      · cases h
  exact this l h
theorem from_ge {l : List α} (hs : SortK ck l) {c : Nat} {x : α} (h : x ∈ from' ck l c) : c ≤ ck x := by
  induction l with
  | nil => cases h
  | cons y l ih =>
    unfold from' at h
    rw [List.dropWhile_cons] at h
    have hs' := List.pairwise_cons.1 hs
    split at h
    · exact ih hs'.2 h
    · rename_i hy
      have hy : ¬ ck y < c := by simpa using hy
      rcases List.mem_cons.1 h with rfl | h
      · omega
      · have := hs'.1 x h; omega
theorem SortK.sub {l m : List α} (hs : SortK ck l) (h : m.Sublist l) : SortK ck m := List.Pairwise.sublist h hs
theorem SortK.from {l : List α} (hs : SortK ck l) (c : Nat) : SortK ck (from' ck l c) := hs.sub (List.dropWhile_sublist _)
theorem SortK.upto {l : List α} (hs : SortK ck l) (c : Nat) : SortK ck (upTo ck l c) := hs.sub (List.takeWhile_sublist _)
/-- In a rising list a key is there once. -/
theorem SortK.uniq {l : List α} (hs : SortK ck l) {x y : α} (hx : x ∈ l) (hy : y ∈ l) (h : ck x = ck y) : x = y := by
  induction l with
  | nil => cases hx
  | cons z l ih =>
    have hs' := List.pairwise_cons.1 hs
    rcases List.mem_cons.1 hx with hx1 | hx1
    · rcases List.mem_cons.1 hy with hy1 | hy1
      · rw [hx1, hy1]
      · have := hs'.1 y hy1; rw [hx1] at h; omega
    · rcases List.mem_cons.1 hy with hy1 | hy1
      · have := hs'.1 x hx1; rw [hy1] at h; omega
      · exact ih hs'.2 hx1 hy1
theorem valK_mem {l : List α} (hs : SortK ck l) {x : α} (hx : x ∈ l) : valK ck v l (ck x) = v x := by
  unfold valK
  cases h : l.find? (fun y => decide (ck y = ck x)) with
  | none =>
    have := List.find?_eq_none.1 h x hx
    simp at this
  | some y =>
    have h1 := List.mem_of_find?_eq_some h
    have h2 := List.find?_some h
    exact congrArg v (hs.uniq h1 hx (of_decide_eq_true h2))
theorem valK_none {l : List α} {c : Nat} (h : ¬ HasK ck l c) : valK ck v l c = 0 := by
  unfold valK
  cases hf : l.find? (fun y => decide (ck y = c)) with
  | none => rfl
  | some y => exact absurd ⟨y, List.mem_of_find?_eq_some hf, by simpa using List.find?_some hf⟩ h
theorem valK_cons {x : α} {l : List α} {c : Nat} (h : ck x ≠ c) : valK ck v (x :: l) c = valK ck v l c := by
  unfold valK
  rw [List.find?_cons, decide_eq_false h]
theorem valK_head {x : α} {l : List α} : valK ck v (x :: l) (ck x) = v x := by
  unfold valK
  rw [List.find?_cons, decide_eq_true rfl]
/-- One key on. -/
theorem from_step {l : List α} (hs : SortK ck l) (c : Nat) : (¬ HasK ck l c ∧ from' ck l (c + 1) = from' ck l c) ∨ ∃ x, ck x = c ∧ from' ck l c = x :: from' ck l (c + 1) := by
  induction l with
  | nil => left; exact ⟨fun ⟨x, h, _⟩ => (by cases h), rfl⟩
  | cons y l ih =>
    have hs' := List.pairwise_cons.1 hs
    unfold from'
    rw [List.dropWhile_cons, List.dropWhile_cons]
    by_cases h1 : ck y < c
    · rw [if_pos (by simp; omega), if_pos (by simpa using h1)]
      rcases ih hs'.2 with ⟨h2, h3⟩ | ⟨x, h2, h3⟩
      · left
        refine ⟨fun ⟨x, hx, hc⟩ => ?_, h3⟩
        rcases List.mem_cons.1 hx with rfl | hx
        · omega
        · exact h2 ⟨x, hx, hc⟩
      · exact .inr ⟨x, h2, h3⟩
    · rw [if_neg (c := decide (ck y < c) = true) (by simpa using h1)]
      by_cases h2 : ck y = c
      · right
        refine ⟨y, h2, ?_⟩
        rw [if_pos (by simp; omega)]
        cases l with
        | nil => rfl
        | cons z l =>
          have := hs'.1 z (by simp)
          rw [List.dropWhile_cons, if_neg (by simp; omega)]
      · left
        rw [if_neg (by simp; omega)]
        refine ⟨fun ⟨x, hx, hc⟩ => ?_, rfl⟩
        rcases List.mem_cons.1 hx with rfl | hx
        · omega
        · have := hs'.1 x hx; omega
/-- All keys, one by one, or the keys that are there. -/
theorem flat_keys {β : Type} (h : Nat → List β) : ∀ (d lo : Nat) (r : List α), SortK ck r → (∀ x ∈ r, lo ≤ ck x ∧ ck x < lo + d) → (∀ c, lo ≤ c → c < lo + d → ¬ HasK ck r c → h c = []) →
    (List.range' lo d).flatMap h = r.flatMap fun x => h (ck x) := by
  intro d
  induction d with
  | zero =>
    intro lo r hs hb _
    cases r with
    | nil => rfl
    | cons x r => have := hb x (by simp); omega
  | succ d ih =>
    intro lo r hs hb hz
    rw [List.range'_succ, List.flatMap_cons]
    cases r with
    | nil =>
      rw [hz lo (Nat.le_refl _) (by omega) (fun ⟨x, hx, _⟩ => by cases hx), List.nil_append, ih (lo + 1) [] hs (by simp) (fun c h1 h2 _ => hz c (by omega) (by omega) (fun ⟨x, hx, _⟩ => by cases hx))]
    | cons x r =>
      have hs' := List.pairwise_cons.1 hs
      have hx := hb x (by simp)
      by_cases e : ck x = lo
      · rw [List.flatMap_cons, e, ih (lo + 1) r hs'.2 (fun y hy => by have := hs'.1 y hy; have := hb y (by simp [hy]); omega) (fun c h1 h2 hn => hz c (by omega) (by omega) (fun ⟨y, hy, hc⟩ => by
          rcases List.mem_cons.1 hy with rfl | hy
          · omega
          · exact hn ⟨y, hy, hc⟩))]
      · have hlo : ¬ HasK ck (x :: r) lo := fun ⟨y, hy, hc⟩ => by
          rcases List.mem_cons.1 hy with rfl | hy
          · exact e hc
          · have := hs'.1 y hy; omega
        rw [hz lo (Nat.le_refl _) (by omega) hlo, List.nil_append]
        exact ih (lo + 1) (x :: r) hs (fun y hy => by
          have := hb y hy
          rcases List.mem_cons.1 hy with rfl | hy
          · omega
          · have := hs'.1 y hy; omega) (fun c h1 h2 hn => hz c (by omega) (by omega) hn)
/-- A key is put in. -/
theorem SortK.insert {l : List α} (hs : SortK ck l) {m : α} (h : ¬ HasK ck l (ck m)) : SortK ck (upTo ck l (ck m) ++ [m] ++ from' ck l (ck m)) ∧ ∀ x, x ∈ upTo ck l (ck m) ++ [m] ++ from' ck l (ck m) ↔ x ∈ l ∨ x = m := by
  have hmem : ∀ x, x ∈ l ↔ x ∈ upTo ck l (ck m) ∨ x ∈ from' ck l (ck m) := fun x => by rw [← List.mem_append, up_from]
  refine ⟨?_, fun x => ?_⟩
  · have hgt : ∀ y ∈ from' ck l (ck m), ck m < ck y := fun y hy => by
      have h1 := from_ge hs hy
      have h2 : ck y ≠ ck m := fun e => h ⟨y, (hmem y).2 (.inr hy), e⟩
      omega
    unfold SortK
    rw [List.append_assoc, List.pairwise_append]
    refine ⟨hs.upto _, List.pairwise_cons.2 ⟨hgt, hs.from _⟩, fun x hx y hy => ?_⟩
    have h1 := up_lt hx
    rcases List.mem_cons.1 hy with rfl | hy
    · exact h1
    · have := hgt y hy; omega
  · rw [List.mem_append, List.mem_append, List.mem_singleton, hmem]
    constructor
    · rintro ((h | h) | h)
      · exact .inl (.inl h)
      · exact .inr h
      · exact .inl (.inr h)
    · rintro ((h | h) | h)
      · exact .inl (.inl h)
      · exact .inr h
      · exact .inl (.inr h)
theorem take_up (l : List α) (c : Nat) : l.take (upTo ck l c).length = upTo ck l c := by
  have : (upTo ck l c ++ from' ck l c).take (upTo ck l c).length = upTo ck l c := List.take_left
  rwa [up_from] at this
theorem drop_up (l : List α) (c : Nat) : l.drop (upTo ck l c).length = from' ck l c := by
  have : (upTo ck l c ++ from' ck l c).drop (upTo ck l c).length = from' ck l c := List.drop_left
  rwa [up_from] at this
/-- The place where a key is, or would be. -/
theorem rd_up [Inhabited α] {l : List α} {c : Nat} {i : Nat} (h : i < (upTo ck l c).length) : ck (rd l (i : Int)) < c := by
  have h1 : rd l (i : Int) = rd (upTo ck l c) (i : Int) := by
    have hl : i < l.length := Nat.lt_of_lt_of_le h (by rw [← up_from (ck := ck) l c, List.length_append]; rw [up_from]; exact Nat.le_add_right _ _)
    have e : l[i]? = (upTo ck l c)[i]? := by
      conv => lhs; rw [← up_from (ck := ck) l c]
      rw [List.getElem?_append_left h]
    simp only [rd, Int.toNat_natCast, e]
  rw [h1]
  exact up_lt (rd_mem h)
theorem up_len (l : List α) (c : Nat) : (upTo ck l c).length ≤ l.length := (List.takeWhile_sublist _).length_le
theorem rd_at [Inhabited α] {l : List α} {c : Nat} : rd l (((upTo ck l c).length : Nat) : Int) = (from' ck l c).headD default := by
  simp only [rd, Int.toNat_natCast]
  have e : l[(upTo ck l c).length]? = (from' ck l c)[0]? := by
    conv => lhs; rw [← up_from (ck := ck) l c]
    rw [up_from]
    have h2 : (upTo ck l c ++ from' ck l c)[(upTo ck l c).length]? = (from' ck l c)[0]? := by rw [List.getElem?_append_right (Nat.le_refl _), Nat.sub_self]
    rwa [up_from] at h2
  rw [e]
  cases from' ck l c <;> rfl
theorem from_len (l : List α) (c : Nat) : (upTo ck l c).length + (from' ck l c).length = l.length := by
  rw [← List.length_append, up_from]
theorem at_not [Inhabited α] {l : List α} (hs : SortK ck l) {c : Nat} (h : (upTo ck l c).length < l.length) : ¬ ck (rd l (((upTo ck l c).length : Nat) : Int)) < c := by
  rw [rd_at]
  have hl := from_len (ck := ck) l c
  cases hf : from' ck l c with
  | nil => rw [hf] at hl; simp at hl; omega
  | cons x r =>
    have := from_ge hs (c := c) (x := x) (by rw [hf]; simp)
    simp only [List.headD_cons]
    omega
theorem at_has [Inhabited α] {l : List α} (hs : SortK ck l) {c : Nat} : HasK ck l c ↔ (upTo ck l c).length < l.length ∧ ck (rd l (((upTo ck l c).length : Nat) : Int)) = c := by
  rw [rd_at]
  have hl := from_len (ck := ck) l c
  rcases from_step hs c with ⟨h1, h2⟩ | ⟨x, h1, h2⟩
  · refine ⟨fun h => absurd h h1, fun ⟨h3, h4⟩ => ?_⟩
    cases hf : from' ck l c with
    | nil => rw [hf] at hl; simp at hl; omega
    | cons y r =>
      rw [hf] at h4
      have hy : y ∈ l := by rw [← up_from (ck := ck) l c, hf]; simp
      exact ⟨y, hy, h4⟩
  · rw [h2]
    refine ⟨fun _ => ⟨by rw [h2] at hl; simp at hl; omega, h1⟩, fun _ => ⟨x, ?_, h1⟩⟩
    rw [← up_from (ck := ck) l c, h2]
    simp
end
end Go.Ax

/- Positions: the program's answers and the reference's are the same ones. -/
set_option linter.unusedVariables false
set_option linter.unusedSimpArgs false
set_option maxRecDepth 100000
set_option maxHeartbeats 4000000
namespace Go.Ax
open Go
theorem all_congr_prefix {n : Nat} {P Q : Nat → Bool} (h : ∀ i, i < n → (∀ j, j < i → P j = true) → P i = Q i) : (List.range n).all P = (List.range n).all Q := by
  induction n with
  | zero => rfl
  | succ n ih =>
    have ih := ih fun i hi hp => h i (by omega) hp
    rw [List.range_succ, List.all_append, List.all_append, ih]
    cases e : (List.range n).all Q with
    | false => rfl
    | true =>
      rw [e] at ih
      simp only [List.all_cons, List.all_nil, Bool.and_true, Bool.true_and]
      exact h n (by omega) fun j hj => all_range_iff.1 ih j hj
theorem stock_key_eq (a b : Int) : stock_key.f a b = some (decide (0 ≤ a ∧ a ≤ 24 ∧ 0 ≤ b ∧ b < 6)) := by
  unfold stock_key.f
  by_cases h1 : a ≥ 0 <;> by_cases h2 : a ≤ 24 <;> by_cases h3 : b ≥ 0 <;> simp [h1, h2, h3] <;> omega
def posBase (x : api_Pos) : Prop := 0 ≤ x.Acc ∧ x.Acc ≤ 24 ∧ 0 ≤ x.Inst ∧ x.Inst < 6 ∧ x.Q ≠ 0 ∧ x.Q ≠ -9223372036854775808
instance (x : api_Pos) : Decidable (posBase x) := by unfold posBase; infer_instance
def ordI (x p : api_Pos) : Int := if ¬(x.Acc = p.Acc) then IntKind.i64.wrap (x.Acc - p.Acc) else IntKind.i64.wrap (x.Inst - p.Inst)
theorem stock_order_eq (x p : api_Pos) : stock_order.f x.Acc x.Inst p = some (ordI x p) := by
  unfold stock_order.f ordI
  split <;> rfl
def posP (l : List api_Pos) (i : Nat) : Bool := decide (posBase (rd l (i : Int)) ∧ (0 < i → 0 < ordI (rd l (i : Int)) (rd l ((i : Int) - 1))))
def posQ (l : List api_Pos) (i : Nat) : Bool := decide (posBase (rd l (i : Int)) ∧ (0 < i → (rd l ((i : Int) - 1)).Acc < (rd l (i : Int)).Acc ∨ (rd l ((i : Int) - 1)).Acc = (rd l (i : Int)).Acc ∧ (rd l ((i : Int) - 1)).Inst < (rd l (i : Int)).Inst))
def stockOk (l : List api_Pos) : Bool := (List.range l.length).all (posQ l)
theorem posP_posQ (l : List api_Pos) : (List.range l.length).all (posP l) = stockOk l := by
  refine all_congr_prefix fun i hi hp => ?_
  unfold posP posQ
  by_cases hb : posBase (rd l (i : Int))
  · by_cases h0 : 0 < i
    · have hprev := hp (i - 1) (by omega)
      unfold posP at hprev
      have hprev := (of_decide_eq_true hprev).1
      rw [show ((i - 1 : Nat) : Int) = (i : Int) - 1 by omega] at hprev
      generalize rd l ((i : Int) - 1) = p at *
      generalize rd l (i : Int) = x at *
      have hb' := hb
      unfold posBase at hb' hprev
      have e1 : IntKind.i64.wrap (x.Acc - p.Acc) = x.Acc - p.Acc := i64_wrap _ (by omega) (by omega)
      have e2 : IntKind.i64.wrap (x.Inst - p.Inst) = x.Inst - p.Inst := i64_wrap _ (by omega) (by omega)
      simp only [hb, true_and, h0, forall_const, ordI, e1, e2]
      rw [decide_eq_decide]
      split <;> omega
    · simp [hb, h0]
  · simp [hb]
theorem stock_Right_eq (l : List api_Pos) (hl : l.length < 2 ^ 59) : stock_Right.f l = some (stockOk l) := by
  have h := loop_all (fun k i => stock_Right.l0 l k i) l.length (posP l) false (l.length : Int) (fun k i hi hp => ?_) (fun k i hi hp => ?_) (fun k => ?_) hl
  · unfold stock_Right.f
    rw [h, posP_posQ]
    simp only [Option.bind_some, flow_if]
    cases stockOk l <;> rfl
  · have e1 := wsucc (i := i) (by omega)
    have e2 := wpred (i := i) (by omega)
    unfold posP at hp
    obtain ⟨hb, ho⟩ := of_decide_eq_true hp
    unfold posBase at hb
    simp only [stock_Right.l0, stock_key_eq, stock_order_eq, stock_Quantity.f, Option.bind_some, e1, e2, decide_eq_true_eq, bne_iff_ne]
    rw [if_pos (by omega), if_pos (by omega), if_neg (by omega), if_neg (by omega), if_neg (by simp; omega)]
    by_cases h0 : 0 < i
    · rw [if_pos (by omega), if_pos (by omega), if_neg (by have := ho h0; omega)]
    · rw [if_neg (by omega)]
  · have e1 := wsucc (i := i) (by omega)
    have e2 := wpred (i := i) (by omega)
    unfold posP at hp
    have hp := of_decide_eq_false hp
    unfold posBase at hp
    simp only [stock_Right.l0, stock_key_eq, stock_order_eq, stock_Quantity.f, Option.bind_some, e1, e2, decide_eq_true_eq, bne_iff_ne]
    rw [if_pos (by omega), if_pos (by omega)]
    repeat' split
    all_goals first | rfl | (exfalso; simp only [ne_eq, Classical.not_not, gt_iff_lt] at *; omega)
  · simp only [stock_Right.l0]; rw [if_neg (by omega)]
theorem rStock_eq (l : List api_Pos) (hl : l.length < 2 ^ 59) : novationref10_Stock.f l = some (stockOk l) := by
  have h := loop_all (fun k i => novationref10_Stock.l0 l k i) l.length (posQ l) false (l.length : Int) (fun k i hi hp => ?_) (fun k i hi hp => ?_) (fun k => ?_) hl
  · unfold novationref10_Stock.f
    rw [h]
    simp only [Option.bind_some, flow_if]
    unfold stockOk
    cases (List.range l.length).all (posQ l) <;> rfl
  · have e1 := wsucc (i := i) (by omega)
    have e2 := wpred (i := i) (by omega)
    unfold posQ at hp
    obtain ⟨hb, ho⟩ := of_decide_eq_true hp
    unfold posBase at hb
    rw [novationref10_Stock.l0, e1, e2]
    rw [if_pos (by omega), if_pos (by omega)]
    repeat' split
    all_goals first | rfl | (exfalso; omega)
  · have e1 := wsucc (i := i) (by omega)
    have e2 := wpred (i := i) (by omega)
    unfold posQ at hp
    have hp := of_decide_eq_false hp
    unfold posBase at hp
    rw [novationref10_Stock.l0, e1, e2]
    rw [if_pos (by omega), if_pos (by omega)]
    repeat' split
    all_goals first | rfl | (exfalso; omega)
  · simp only [novationref10_Stock.l0]; rw [if_neg (by omega)]
def priceOk (p : Int) : Bool := decide (1 ≤ p ∧ p ≤ 1000000000000)
theorem mark_Price_eq (p : Int) : mark_Price.f p = some (priceOk p) := by
  unfold mark_Price.f priceOk
  by_cases h : p ≥ 1 <;> simp [h]
theorem rprice_eq (p : Int) : novationref15_price.f p = some (priceOk p) := by
  unfold novationref15_price.f priceOk
  by_cases h : p ≥ 1 <;> simp [h]

/-- The sum of an instrument's positions. -/
def stockSum (l : List api_Pos) (inst : Int) : Int := ((l.filter (fun x => decide (x.Inst = inst))).map (·.Q)).sum
def PosI (l : List api_Pos) : Prop := ∀ i, i < l.length → I64 (rd l (i : Int)).Q
theorem sum_bound (l : List Int) (h : ∀ x ∈ l, I64 x) : (l.sum).natAbs ≤ l.length * 9223372036854775808 := by
  induction l with
  | nil => simp
  | cons x l ih =>
    have h1 := ih fun y hy => h y (List.mem_cons_of_mem _ hy)
    have h2 := h x (List.mem_cons_self ..)
    unfold I64 at h2
    rw [List.sum_cons, List.length_cons, Nat.add_mul]
    omega
theorem sum_wid {l : List Int} (h : ∀ x ∈ l, I64 x) (hl : l.length < 2 ^ 59) : Wid l.sum ∧ BigOk l.sum := by
  have h1 := sum_bound l h
  have h2 : l.length * 9223372036854775808 ≤ 2 ^ 59 * 9223372036854775808 := Nat.mul_le_mul_right _ (by omega)
  refine ⟨?_, bigOk_of (Nat.lt_of_le_of_lt (Nat.le_trans h1 h2) (by decide))⟩
  unfold Wid
  omega
theorem mem_rd {α : Type} [Inhabited α] {l : List α} {x : α} (h : x ∈ l) : ∃ i, i < l.length ∧ x = rd l (i : Int) := by
  obtain ⟨i, hi, e⟩ := List.mem_iff_getElem.1 h
  exact ⟨i, hi, by rw [rd_get l hi, e]⟩
theorem stock_vals {l : List api_Pos} (hI : PosI l) (inst : Int) : ∀ x ∈ (l.filter (fun x => decide (x.Inst = inst))).map (·.Q), I64 x := by
  intro x hx
  obtain ⟨y, hy, rfl⟩ := List.mem_map.1 hx
  obtain ⟨i, hi, rfl⟩ := mem_rd (List.mem_filter.1 hy).1
  exact hI i hi

theorem stock_Sum_eq {l : List api_Pos} (inst : Int) (hI : PosI l) (hl : l.length < 2 ^ 32) : stock_Sum.f l inst = some (if stockOk l = true then stockSum l inst else 0) := by
  unfold stock_Sum.f
  rw [stock_Right_eq l (by omega), Option.bind_some]
  by_cases hs : stockOk l = true
  · rw [if_neg (by simp [hs]), if_pos hs]
    have h := loop_gather (fun k s i => stock_Sum.l0 l inst k s i) l (fun x => if x.Inst = inst then [x.Q] else []) (fun k i s hi e => ?_) (fun k s => ?_) (by omega)
    · rw [h, Option.bind_some]
      simp only
      rw [flatMap_if (fun x : api_Pos => x.Inst = inst) (·.Q)]
      have hv := stock_vals hI inst
      have hlen : ((l.filter (fun x => decide (x.Inst = inst))).map (·.Q)).length ≤ l.length := by rw [List.length_map]; exact List.length_filter_le _ _
      have hw := sum_wid hv (by omega)
      unfold wide_Sum.f
      have hall : ((l.filter (fun x => decide (x.Inst = inst))).map (·.Q)).all wfit = true := by
        rw [List.all_eq_true]
        intro x hx
        have := hv x hx
        unfold I64 at this
        exact decide_eq_true ⟨by omega, by omega⟩
      rw [if_pos ⟨hall, by omega⟩, Option.bind_some]
      unfold stockSum wfitV
      rw [if_pos hw.1]
    · have e1 := wsucc (i := i) (by omega)
      have hQ := hI i hi
      have hlen : s.length ≤ i := by rw [e]; refine Nat.le_trans (flatMap_if_len (fun x : api_Pos => x.Inst = inst) (·.Q) _) (by rw [List.length_take]; omega)
      simp only [stock_Sum.l0, e1]
      rw [if_pos (by omega), if_pos (by omega)]
      by_cases h : (rd l (i : Int)).Inst = inst
      · rw [if_pos h, if_pos h]
        unfold wide_Of.f
        rw [if_pos hQ, Option.bind_some, if_pos (by omega)]
      · rw [if_neg h, if_neg h, List.append_nil]
    · simp only [stock_Sum.l0]; rw [if_neg (by omega)]
  · rw [if_pos hs, if_neg hs]
theorem foldl_if {α : Type} (p : α → Prop) [DecidablePred p] (f : α → Int) (l : List α) (s : Int) : l.foldl (fun t x => if p x then t + f x else t) s = s + ((l.filter (fun x => decide (p x))).map f).sum := by
  induction l generalizing s with
  | nil => simp
  | cons x l ih =>
    rw [List.foldl_cons, ih]
    by_cases h : p x
    · simp [h]; omega
    · simp [h]
theorem rSumInst_eq {l : List api_Pos} (inst : Int) (hI : PosI l) (hl : l.length < 2 ^ 32) : novationref10_SumInst.f l inst = some (if stockOk l = true then stockSum l inst else 0) := by
  unfold novationref10_SumInst.f
  rw [rStock_eq l (by omega), Option.bind_some]
  by_cases hs : stockOk l = true
  · rw [if_neg (by simp [hs]), if_pos hs]
    have h := loop_sum (fun k s i => novationref10_SumInst.l0 l inst k s i) l (fun t x => if x.Inst = inst then t + x.Q else t) (fun i s => s.natAbs ≤ i * 9223372036854775808) 0 (by simp) (fun k i s hi hb e => ?_) (fun k s => ?_) (by omega)
    · rw [h, Option.bind_some]
      simp only
      rw [foldl_if (fun x : api_Pos => x.Inst = inst) (·.Q), Int.zero_add]
      rfl
    · have e1 := wsucc (i := i) (by omega)
      have hQ := hI i hi
      have hQ' := hQ
      unfold I64 at hQ'
      have hb1 : i * 9223372036854775808 ≤ 2 ^ 32 * 9223372036854775808 := Nat.mul_le_mul_right _ (by omega)
      have hB : BigOk s := bigOk_of (Nat.lt_of_le_of_lt (Nat.le_trans hb hb1) (by decide))
      have hB2 : BigOk (rd l (i : Int)).Q := bigOk_of (Nat.lt_of_le_of_lt (m := 2 ^ 64) (by omega) (by decide))
      simp only [novationref10_SumInst.l0, e1]
      by_cases h : (rd l (i : Int)).Inst = inst
      · refine ⟨?_, ?_⟩
        · rw [if_pos (by omega), if_pos (by omega), if_pos h, if_pos h]
          unfold novationref1_Whole.f novationref1_Plus.f
          rw [if_pos hQ, Option.bind_some, if_pos ⟨hB, hB2⟩, Option.bind_some]
        · rw [if_pos h, Nat.add_mul]
          omega
      · refine ⟨?_, ?_⟩
        · rw [if_pos (by omega), if_pos (by omega), if_neg h, if_neg h]
        · rw [if_neg h, Nat.add_mul]
          exact Nat.le_trans hb (Nat.le_add_right _ _)
    · show novationref10_SumInst.l0 l inst (k + 1) s (l.length : Int) = _
      rw [novationref10_SumInst.l0, if_neg (Int.lt_irrefl _)]
  · rw [if_pos hs, if_neg hs]
theorem stockSum_big {l : List api_Pos} (inst : Int) (hI : PosI l) (hl : l.length < 2 ^ 32) : BigOk (stockSum l inst) := by
  refine (sum_wid (stock_vals hI inst) ?_).2
  have : ((l.filter (fun x => decide (x.Inst = inst))).map (·.Q)).length ≤ l.length := by rw [List.length_map]; exact List.length_filter_le _ _
  omega
theorem cmpI_zero (z : Int) : cmpI z 0 = 0 ↔ z = 0 := by unfold cmpI; repeat' split; all_goals omega
/-- All of the instruments come to 0, and the positions may be. -/
def flatOk (l : List api_Pos) : Bool := stockOk l && decide (∀ i : Nat, i < 6 → stockSum l (i : Int) = 0)
theorem flat_if {b : Bool} {z : Int} {A B : Option (Flow Int Bool)} : (if ¬(cmpI (if b = true then z else 0) 0 = 0) then A else B) = if b = true → z = 0 then B else A := by
  cases b <;> simp [cmpI_zero]
theorem stock_Flat_eq {l : List api_Pos} (hI : PosI l) (hl : l.length < 2 ^ 32) : stock_Flat.f l = some (flatOk l) := by
  unfold stock_Flat.f
  rw [loop_allg (fun k i => stock_Flat.l0 l k i) 6 (fun i => stockOk l = true → stockSum l (i : Int) = 0) false 6 _ (fun k i hi hP => ?_) (fun k i hi hP => ?_) (fun k => ?_) (by omega)]
  · rw [stock_Right_eq l (by omega)]
    unfold flatOk
    cases hs : stockOk l
    · simp
    · simp only [true_implies, Bool.true_and, Option.bind_some]; exact if_dec _
  · have e1 := wsucc (i := i) (by omega)
    simp only [stock_Flat.l0, e1, stock_Sum_eq (i : Int) hI hl, Option.bind_some, wide_Sign.f, flat_if]
    rw [if_pos (by omega), if_pos hP]
  · have e1 := wsucc (i := i) (by omega)
    simp only [stock_Flat.l0, e1, stock_Sum_eq (i : Int) hI hl, Option.bind_some, wide_Sign.f, flat_if]
    rw [if_pos (by omega), if_neg hP]
  · simp only [stock_Flat.l0]; rw [if_neg (by omega)]; rfl
theorem rFlat_eq {l : List api_Pos} (hI : PosI l) (hl : l.length < 2 ^ 32) : novationref10_Flat.f l = some (flatOk l) := by
  have hB : ∀ i : Nat, BigOk (if stockOk l = true then stockSum l (i : Int) else 0) := fun i => by
    split
    · exact stockSum_big _ hI hl
    · exact bigOk_of (by decide)
  unfold novationref10_Flat.f
  rw [loop_allg (fun k i => novationref10_Flat.l0 l k i) 6 (fun i => stockOk l = true → stockSum l (i : Int) = 0) false 6 _ (fun k i hi hP => ?_) (fun k i hi hP => ?_) (fun k => ?_) (by omega)]
  · rw [rStock_eq l (by omega)]
    unfold flatOk
    cases hs : stockOk l
    · simp
    · simp only [true_implies, Bool.true_and, Option.bind_some]; exact if_dec _
  · have e1 := wsucc (i := i) (by omega)
    simp only [novationref10_Flat.l0, e1, rSumInst_eq (i : Int) hI hl, Option.bind_some, novationref1_Sign.f, hB i, if_true, flat_if]
    rw [if_pos (by omega), if_pos hP]
  · have e1 := wsucc (i := i) (by omega)
    simp only [novationref10_Flat.l0, e1, rSumInst_eq (i : Int) hI hl, Option.bind_some, novationref1_Sign.f, hB i, if_true, flat_if]
    rw [if_pos (by omega), if_neg hP]
  · simp only [novationref10_Flat.l0]; rw [if_neg (by omega)]; rfl
/-- An account's positions. -/
def legsOf (l : List api_Pos) (acc : Int) : List api_Leg := (l.filter (fun x => decide (x.Acc = acc))).map (fun x => ⟨x.Inst, x.Q⟩)
theorem stock_Of_eq {l : List api_Pos} (acc : Int) (hl : l.length < 2 ^ 32) : stock_Of.f l acc = some (if stockOk l = true then legsOf l acc else []) := by
  unfold stock_Of.f
  rw [stock_Right_eq l (by omega), Option.bind_some]
  by_cases hs : stockOk l = true
  · rw [if_neg (by simp [hs]), if_pos hs]
    have h := loop_gather (fun k s i => stock_Of.l0 l acc k s i) l (fun x => if x.Acc = acc then [(⟨x.Inst, x.Q⟩ : api_Leg)] else []) (fun k i s hi e => ?_) (fun k s => ?_) (by omega)
    · rw [h, Option.bind_some]
      simp only
      rw [flatMap_if (fun x : api_Pos => x.Acc = acc) (fun x => (⟨x.Inst, x.Q⟩ : api_Leg))]
      rfl
    · have e1 := wsucc (i := i) (by omega)
      have hlen : s.length ≤ i := by rw [e]; refine Nat.le_trans (flatMap_if_len (fun x : api_Pos => x.Acc = acc) (fun x => (⟨x.Inst, x.Q⟩ : api_Leg)) _) (by rw [List.length_take]; omega)
      simp only [stock_Of.l0, e1]
      rw [if_pos (by omega), if_pos (by omega)]
      by_cases h : (rd l (i : Int)).Acc = acc
      · rw [if_pos h, if_pos h, if_pos (by omega)]
      · rw [if_neg h, if_neg h, List.append_nil]
    · simp only [stock_Of.l0]; rw [if_neg (by omega)]
  · rw [if_pos hs, if_neg hs]
theorem rOf_eq {l : List api_Pos} (acc : Int) (hl : l.length < 2 ^ 32) : novationref10_Of.f l acc = some (if stockOk l = true then legsOf l acc else []) := by
  unfold novationref10_Of.f
  rw [rStock_eq l (by omega), Option.bind_some]
  by_cases hs : stockOk l = true
  · rw [if_neg (by simp [hs]), if_pos hs]
    have h := loop_gather (fun k s i => novationref10_Of.l0 l acc k s i) l (fun x => if x.Acc = acc then [(⟨x.Inst, x.Q⟩ : api_Leg)] else []) (fun k i s hi e => ?_) (fun k s => ?_) (by omega)
    · rw [h, Option.bind_some]
      simp only
      rw [flatMap_if (fun x : api_Pos => x.Acc = acc) (fun x => (⟨x.Inst, x.Q⟩ : api_Leg))]
      rfl
    · have e1 := wsucc (i := i) (by omega)
      have hlen : s.length ≤ i := by rw [e]; refine Nat.le_trans (flatMap_if_len (fun x : api_Pos => x.Acc = acc) (fun x => (⟨x.Inst, x.Q⟩ : api_Leg)) _) (by rw [List.length_take]; omega)
      simp only [novationref10_Of.l0, e1]
      rw [if_pos (by omega), if_pos (by omega)]
      by_cases h : (rd l (i : Int)).Acc = acc
      · rw [if_pos h, if_pos h, if_pos (by omega)]
      · rw [if_neg h, if_neg h, List.append_nil]
    · simp only [novationref10_Of.l0]; rw [if_neg (by omega)]
  · rw [if_pos hs, if_neg hs]
end Go.Ax

/- Positions behind shifts: the reference's answer. -/
set_option linter.unusedVariables false
set_option linter.unusedSimpArgs false
set_option maxRecDepth 100000
set_option maxHeartbeats 4000000
namespace Go.Ax
open Go
theorem sort_of_adjS {α : Type} [Inhabited α] {ck : α → Nat} {l : List α} (h : ∀ i : Nat, 0 < i → i < l.length → ck (rd l ((i : Int) - 1)) < ck (rd l (i : Int))) : SortK ck l := by
  induction l with
  | nil => exact List.Pairwise.nil
  | cons x l ih =>
    have hrd : ∀ i : Nat, rd (x :: l) ((i + 1 : Nat) : Int) = rd l (i : Int) := fun i => by simp [rd]
    have ih' := ih fun i h0 hi => by
      have h1 := h (i + 1) (by omega) (by simpa using hi)
      rw [hrd] at h1
      have e : ((i + 1 : Nat) : Int) - 1 = (((i - 1) + 1 : Nat) : Int) := by omega
      rw [e, hrd] at h1
      have e2 : ((i : Int) - 1) = ((i - 1 : Nat) : Int) := by omega
      rw [e2]; exact h1
    refine List.pairwise_cons.2 ⟨fun y hy => ?_, ih'⟩
    cases l with
    | nil => cases hy
    | cons z r =>
      have h1 := h 1 (by omega) (by simp)
      have e0 : rd (x :: z :: r) (((1 : Nat) : Int) - 1) = x := by simp [rd]
      have e1 : rd (x :: z :: r) ((1 : Nat) : Int) = z := by simp [rd]
      rw [e0, e1] at h1
      rcases List.mem_cons.1 hy with rfl | hy
      · exact h1
      · have := (List.pairwise_cons.1 ih').1 y hy; omega
theorem adj_of_sortS {α : Type} [Inhabited α] {ck : α → Nat} {l : List α} (hs : SortK ck l) {i : Nat} (h0 : 0 < i) (hi : i < l.length) : ck (rd l ((i : Int) - 1)) < ck (rd l (i : Int)) := by
  have e : ((i : Int) - 1) = ((i - 1 : Nat) : Int) := by omega
  rw [e, rd_get l hi, rd_get l (show i - 1 < l.length by omega)]
  exact List.pairwise_iff_getElem.1 hs (i - 1) i (by omega) hi (by omega)
/-- A position's place. -/
def ckP (x : api_Pos) : Nat := (x.Acc * 6 + x.Inst).toNat
theorem ckP_def (x : api_Pos) : ckP x = (x.Acc * 6 + x.Inst).toNat := rfl
def posK (a n : Int) : Prop := 0 ≤ a ∧ a ≤ 24 ∧ 0 ≤ n ∧ n < 6
instance (a n : Int) : Decidable (posK a n) := by unfold posK; infer_instance
structure StockS (l : List api_Pos) : Prop where
  sort : SortK ckP l
  key : ∀ x ∈ l, posK x.Acc x.Inst
  nz : ∀ x ∈ l, x.Q ≠ 0
  nm : ∀ x ∈ l, x.Q ≠ -9223372036854775808
theorem stockOk_S {l : List api_Pos} : stockOk l = true ↔ StockS l := by
  unfold stockOk
  rw [all_range_iff]
  constructor
  · intro h
    have hq : ∀ i, i < l.length → posBase (rd l (i : Int)) ∧ (0 < i → (rd l ((i : Int) - 1)).Acc < (rd l (i : Int)).Acc ∨ (rd l ((i : Int) - 1)).Acc = (rd l (i : Int)).Acc ∧ (rd l ((i : Int) - 1)).Inst < (rd l (i : Int)).Inst) := fun i hi => of_decide_eq_true (h i hi)
    refine ⟨sort_of_adjS fun i h0 hi => ?_, fun x hx => ?_, fun x hx => ?_, fun x hx => ?_⟩
    · have h1 := hq i hi
      have h3 := (hq (i - 1) (by omega)).1
      have e : ((i : Int) - 1) = ((i - 1 : Nat) : Int) := by omega
      rw [← e] at h3
      have h2 := h1.2 h0
      have h4 := h1.1
      unfold posBase at h3 h4
      unfold ckP
      omega
    · obtain ⟨i, hi, rfl⟩ := mem_rd hx
      have := (hq i hi).1
      unfold posBase at this
      unfold posK; omega
    · obtain ⟨i, hi, rfl⟩ := mem_rd hx
      have := (hq i hi).1
      unfold posBase at this; omega
    · obtain ⟨i, hi, rfl⟩ := mem_rd hx
      have := (hq i hi).1
      unfold posBase at this; omega
  · intro h i hi
    have h1 := h.key _ (rd_mem hi)
    have h2 := h.nz _ (rd_mem hi)
    have h3 := h.nm _ (rd_mem hi)
    refine decide_eq_true ⟨?_, fun h0 => ?_⟩
    · unfold posK at h1; unfold posBase; omega
    · have h4 := adj_of_sortS h.sort h0 hi
      have e : ((i : Int) - 1) = ((i - 1 : Nat) : Int) := by omega
      have h5 := h.key _ (rd_mem (l := l) (i := i - 1) (by omega))
      rw [← e] at h5
      unfold posK at h1 h5
      unfold ckP at h4
      omega
/-! ### Shifts -/
def ShiftI (s : List api_Shift) : Prop := ∀ x ∈ s, I64 x.Q
def ssum (s : List api_Shift) (a n : Int) : Int := ((s.filter (fun x => decide (x.Acc = a ∧ x.Inst = n))).map (·.Q)).sum
theorem ssum_le {s : List api_Shift} (h : ShiftI s) (hl : s.length < 2 ^ 32) (a n : Int) : (ssum s a n).natAbs < 2 ^ 96 := by
  unfold ssum
  have h1 := sum_bound ((s.filter (fun x => decide (x.Acc = a ∧ x.Inst = n))).map (·.Q)) (fun x hx => by
    obtain ⟨y, hy, rfl⟩ := List.mem_map.1 hx
    exact h y (List.mem_filter.1 hy).1)
  rw [List.length_map] at h1
  have h2 := List.length_filter_le (fun x : api_Shift => decide (x.Acc = a ∧ x.Inst = n)) s
  have h4 : (s.filter (fun x => decide (x.Acc = a ∧ x.Inst = n))).length * 9223372036854775808 ≤ 2 ^ 32 * 9223372036854775808 := Nat.mul_le_mul_right _ (by omega)
  have h5 : 2 ^ 32 * 9223372036854775808 < 2 ^ 96 := by decide
  omega
theorem ssum_succ {s : List api_Shift} {i : Nat} (hi : i < s.length) (a n : Int) : ssum (s.take (i + 1)) a n = if (rd s (i : Int)).Acc = a ∧ (rd s (i : Int)).Inst = n then ssum (s.take i) a n + (rd s (i : Int)).Q else ssum (s.take i) a n := by
  unfold ssum
  rw [take_succ_rd s hi, List.filter_append, List.map_append, List.sum_append]
  by_cases hc : (rd s (i : Int)).Acc = a ∧ (rd s (i : Int)).Inst = n
  · rw [if_pos hc, List.filter_cons_of_pos (by simpa using hc)]; simp
  · rw [if_neg hc, List.filter_cons_of_neg (by simpa using hc)]; simp
/-- The loop that sums the shifts of a key. -/
theorem sh_loop {s : List api_Shift} (h : ShiftI s) (hl : s.length < 2 ^ 32) (a n : Int) (L : Nat → Bool → Int → Int → Option (Bool × Int × Int))
    (hL : ∀ k b t i, L (k + 1) b t i = (if i < (s.length : Int) then (if 0 ≤ i ∧ i < (s.length : Int) then (if (rd s i).Acc = a then (if (rd s i).Inst = n then ((novationref1_Whole.f (rd s i).Q).bind fun y => ((novationref1_Plus.f t y).bind fun z => (L k true z (IntKind.i64.wrap (i + 1))))) else (L k b t (IntKind.i64.wrap (i + 1)))) else (L k b t (IntKind.i64.wrap (i + 1)))) else none) else (some (b, t, i)))) :
    ∃ b, L FUEL false 0 0 = some (b, ssum s a n, (s.length : Int)) ∧ (b = false → ssum s a n = 0) := by
  have h0 := loop_inv (fun q (p : Bool × Int × Nat) => L q p.1 p.2.1 (p.2.2 : Int)) (fun p => p.2.2 ≤ s.length ∧ p.2.1 = ssum (s.take p.2.2) a n ∧ (p.1 = false → p.2.1 = 0)) (fun p => s.length - p.2.2) (fun r => r.2.1 = ssum s a n ∧ r.2.2 = (s.length : Int) ∧ (r.1 = false → ssum s a n = 0))
    (fun q p hp => by
      obtain ⟨b, t, i⟩ := p
      obtain ⟨h1, h2, h3⟩ := hp
      simp only at h1 h2 h3
      by_cases hi : i < s.length
      · left
        have e1 := wsucc (i := i) (by omega)
        have ht : t.natAbs < 2 ^ 96 := by rw [h2]; exact ssum_le (fun x hx => h x (List.mem_of_mem_take hx)) (by rw [List.length_take]; omega) a n
        have hQ := h _ (rd_mem hi)
        have hQ' : (rd s (i : Int)).Q.natAbs < 2 ^ 64 := by unfold I64 at hQ; omega
        have hs := ssum_succ hi a n
        simp only [hL, e1]
        rw [if_pos (by omega), if_pos (by omega)]
        by_cases c1 : (rd s (i : Int)).Acc = a
        · by_cases c2 : (rd s (i : Int)).Inst = n
          · rw [if_pos c1, if_pos c2]
            unfold novationref1_Whole.f novationref1_Plus.f
            rw [if_pos hQ, Option.bind_some, if_pos ⟨bigOk_of (Nat.lt_trans ht (by decide)), bigOk_of (Nat.lt_trans hQ' (by decide))⟩, Option.bind_some]
            exact ⟨(true, t + (rd s (i : Int)).Q, i + 1), rfl, ⟨by simp only; omega, by rw [hs, if_pos ⟨c1, c2⟩, h2], by simp⟩, by simp only; omega⟩
          · rw [if_pos c1, if_neg c2]
            exact ⟨(b, t, i + 1), rfl, ⟨by simp only; omega, by rw [hs, if_neg (fun h => c2 h.2)]; exact h2, h3⟩, by simp only; omega⟩
        · rw [if_neg c1]
          exact ⟨(b, t, i + 1), rfl, ⟨by simp only; omega, by rw [hs, if_neg (fun h => c1 h.1)]; exact h2, h3⟩, by simp only; omega⟩
      · right
        have : i = s.length := by omega
        subst this
        rw [List.take_length] at h2
        refine ⟨(b, t, (s.length : Int)), ?_, h2, rfl, fun hb => by rw [← h2]; exact h3 hb⟩
        show L (q + 1) b t (s.length : Int) = _
        rw [hL, if_neg (by omega)])
    (s0 := (false, 0, 0)) ⟨Nat.zero_le _, by simp [ssum], by simp⟩ (by simp only; omega)
  obtain ⟨⟨b, t, i⟩, h1, h2, h3, h4⟩ := h0
  simp only at h2 h3 h4
  rw [show ((0 : Nat) : Int) = 0 from rfl] at h1
  exact ⟨b, by rw [← h2, ← h3]; exact h1, h4⟩
/-- May a number be a quantity? -/
def qfit (z : Int) : Bool := fit z && decide (z ≠ -9223372036854775808)
theorem quantity_eq {z : Int} (h : z.natAbs < 2 ^ 200) : novationref1_Quantity.f z = some (if qfit z = true then (z, true) else (0, false)) := by
  unfold novationref1_Quantity.f novationref1_Int.f qfit
  rw [if_pos (bigOk_of (Nat.lt_trans h (by decide))), Option.bind_some]
  simp only
  cases hf : fit z with
  | false => simp
  | true =>
    have hv : fitV z = z := by unfold fitV; rw [if_pos hf]
    rw [hv, if_neg (by simp)]
    by_cases hm : z = -9223372036854775808
    · rw [if_pos hm, if_neg (by simp [hm])]
    · rw [if_neg hm, if_pos (by simp [hm])]
/-- A position. -/
def heldO (l : List api_Pos) (a n : Int) : Int := match l.find? (fun x => decide (x.Acc = a ∧ x.Inst = n)) with | some x => x.Q | none => 0
theorem heldO_val {l : List api_Pos} (hk : ∀ x ∈ l, posK x.Acc x.Inst) {a n : Int} (h1 : 0 ≤ a) (h2 : 0 ≤ n) (h3 : n < 6) : heldO l a n = valK ckP (·.Q) l (a * 6 + n).toNat := by
  unfold heldO valK
  have e : l.find? (fun x => decide (x.Acc = a ∧ x.Inst = n)) = l.find? (fun x => decide (ckP x = (a * 6 + n).toNat)) := by
    induction l with
    | nil => rfl
    | cons x l ih =>
      rw [List.find?_cons, List.find?_cons, ih fun y hy => hk y (by simp [hy])]
      have h4 := hk x (by simp)
      unfold posK at h4
      have : decide (x.Acc = a ∧ x.Inst = n) = decide (ckP x = (a * 6 + n).toNat) := by
        rw [decide_eq_decide]
        unfold ckP
        omega
      rw [this]
  rw [e]
  cases l.find? (fun x => decide (ckP x = (a * 6 + n).toNat)) <;> rfl
def newq (l : List api_Pos) (s : List api_Shift) (c : Nat) : Int := heldO l ((c / 6 : Nat) : Int) ((c % 6 : Nat) : Int) + ssum s ((c / 6 : Nat) : Int) ((c % 6 : Nat) : Int)
def posItem (f : Nat → Int) (c : Nat) : List api_Pos := if f c = 0 then [] else [⟨((c / 6 : Nat) : Int), ((c % 6 : Nat) : Int), f c⟩]
def fitsQ (f : Nat → Int) (c : Nat) : Bool := qfit (f c)
def codesP : List Nat := List.range' 0 150
/-- What positions behind shifts come to. -/
def shiftedOf (f : Nat → Int) : List api_Pos × Bool := if codesP.all (fitsQ f) = true then (codesP.flatMap (posItem f), true) else ([], false)
theorem posItem_len (f : Nat → Int) (c : Nat) : (posItem f c).length ≤ 1 := by unfold posItem; split <;> simp
theorem up_hasP {l : List api_Pos} (hs : SortK ckP l) (c : Nat) : (¬ HasK ckP l c ∧ (upTo ckP l (c + 1)).length = (upTo ckP l c).length) ∨ (HasK ckP l c ∧ (upTo ckP l (c + 1)).length = (upTo ckP l c).length + 1) := by
  have h1 := from_len (ck := ckP) l c
  have h2 := from_len (ck := ckP) l (c + 1)
  rcases from_step hs c with ⟨h3, h4⟩ | ⟨x, h3, h4⟩
  · left; rw [h4] at h2; exact ⟨h3, by omega⟩
  · right
    rw [h4] at h1
    simp only [List.length_cons] at h1
    refine ⟨⟨x, ?_, h3⟩, by omega⟩
    rw [← up_from (ck := ckP) l c, h4]
    simp
theorem shift_l1 {l : List api_Pos} (hS : StockS l) (hI : PosI l) (hl : l.length < 2 ^ 32) {s : List api_Shift} (hs : ShiftI s) (hsl : s.length < 2 ^ 32) (k : Nat) (hk : k ≤ 24) : ∀ (d n q : Nat) (out : List api_Pos), n + d = 6 → d < q → out.length + d ≤ 100000 →
    novationref10_Shifted.l1 l s k q out (upTo ckP l (k * 6 + n)).length n =
      some (if (List.range' (k * 6 + n) d).all (fitsQ (newq l s)) = true then .out (out ++ (List.range' (k * 6 + n) d).flatMap (posItem (newq l s)), ((upTo ckP l (k * 6 + 6)).length : Int), 6) else .ret ([], false)) := by
  intro d
  induction d with
  | zero =>
    intro n q out hn hq ho
    obtain ⟨q, rfl⟩ : ∃ m, q = m + 1 := ⟨q - 1, by omega⟩
    have : n = 6 := by omega
    subst this
    simp only [novationref10_Shifted.l1]
    rw [if_neg (by omega)]
    simp
  | succ d ih =>
    intro n q out hn hq ho
    obtain ⟨q, rfl⟩ : ∃ m, q = m + 1 := ⟨q - 1, by omega⟩
    have e1 := wsucc (i := n) (by omega)
    have hup := up_len (ck := ckP) l (k * 6 + n)
    have e2 := wsucc (i := (upTo ckP l (k * 6 + n)).length) (by omega)
    have hc1 : (k * 6 + n) / 6 = k := by omega
    have hc2 : (k * 6 + n) % 6 = n := by omega
    have hg : heldO l (k : Int) (n : Int) = valK ckP (·.Q) l (k * 6 + n) := by
      rw [heldO_val hS.key (by omega) (by omega) (by omega)]
      congr 1
    have hnew : newq l s (k * 6 + n) = valK ckP (·.Q) l (k * 6 + n) + ssum s k n := by
      unfold newq; rw [hc1, hc2, hg]
    have hi : posItem (newq l s) (k * 6 + n) = if newq l s (k * 6 + n) = 0 then [] else [⟨(k : Int), (n : Int), newq l s (k * 6 + n)⟩] := by
      unfold posItem; rw [hc1, hc2]
    -- what follows
    have fin : ∀ ptr : Nat, ptr = (upTo ckP l (k * 6 + (n + 1))).length → ∀ (z : Int) (b : Bool), (if qfit (newq l s (k * 6 + n)) = true then z = newq l s (k * 6 + n) ∧ b = true else b = false) →
        (if ¬(b = true) then (some (.ret (([] : List api_Pos), false))) else (if ¬(z = 0) then (if out.length + 1 ≤ 100000000000 then (novationref10_Shifted.l1 l s k q (out ++ ([(⟨(k : Int), (n : Int), z⟩ : api_Pos)])) (ptr : Int) ((n + 1 : Nat) : Int)) else none) else (novationref10_Shifted.l1 l s k q out (ptr : Int) ((n + 1 : Nat) : Int)))) =
        some (if (List.range' (k * 6 + n) (d + 1)).all (fitsQ (newq l s)) = true then .out (out ++ (List.range' (k * 6 + n) (d + 1)).flatMap (posItem (newq l s)), ((upTo ckP l (k * 6 + 6)).length : Int), 6) else .ret ([], false)) := by
      intro ptr hptr z b hzb
      rw [List.range'_succ, Nat.add_assoc, List.all_cons, List.flatMap_cons]
      cases hf : qfit (newq l s (k * 6 + n)) with
      | false =>
        rw [hf, if_neg (by simp)] at hzb
        rw [hzb, if_pos (by simp)]
        have hfc : fitsQ (newq l s) (k * 6 + n) = false := hf
        rw [hfc, Bool.false_and, if_neg (by simp)]
      | true =>
        rw [hf, if_pos rfl] at hzb
        obtain ⟨hv, hb⟩ := hzb
        have hfc : fitsQ (newq l s) (k * 6 + n) = true := hf
        rw [hb, if_neg (by simp), hv, hptr, hi, hfc, Bool.true_and]
        by_cases hz : newq l s (k * 6 + n) = 0
        · rw [if_neg (by simp [hz]), if_pos hz, ih (n + 1) q out (by omega) (by omega) (by omega), List.nil_append]
        · rw [if_pos hz, if_pos (by omega), if_neg hz, ih (n + 1) q _ (by omega) (by omega) (by rw [List.length_append]; simp; omega), List.append_assoc]
    have hss := ssum_le hs hsl (k : Int) (n : Int)
    -- with shifts, or without any
    have both : ∀ (v : Int), I64 v → v ≠ -9223372036854775808 → newq l s (k * 6 + n) = v + ssum s k n → ∀ (b : Bool), (b = false → ssum s k n = 0) → ∀ ptr : Nat, ptr = (upTo ckP l (k * 6 + (n + 1))).length →
        (if b = true then ((novationref1_Whole.f v).bind fun y => ((novationref1_Plus.f (ssum s k n) y).bind fun y' => ((novationref1_Quantity.f y').bind fun y'' => (if ¬(y''.2 = true) then (some (.ret (([] : List api_Pos), false))) else (if ¬(y''.1 = 0) then (if out.length + 1 ≤ 100000000000 then (novationref10_Shifted.l1 l s k q (out ++ ([(⟨(k : Int), (n : Int), y''.1⟩ : api_Pos)])) (ptr : Int) ((n + 1 : Nat) : Int)) else none) else (novationref10_Shifted.l1 l s k q out (ptr : Int) ((n + 1 : Nat) : Int)))))))
          else (if ¬(v = 0) then (if out.length + 1 ≤ 100000000000 then (novationref10_Shifted.l1 l s k q (out ++ ([(⟨(k : Int), (n : Int), v⟩ : api_Pos)])) (ptr : Int) ((n + 1 : Nat) : Int)) else none) else (novationref10_Shifted.l1 l s k q out (ptr : Int) ((n + 1 : Nat) : Int)))) =
        some (if (List.range' (k * 6 + n) (d + 1)).all (fitsQ (newq l s)) = true then .out (out ++ (List.range' (k * 6 + n) (d + 1)).flatMap (posItem (newq l s)), ((upTo ckP l (k * 6 + 6)).length : Int), 6) else .ret ([], false)) := by
      intro v hv hm hnv b hb ptr hptr
      cases b with
      | true =>
        have hv' : v.natAbs < 2 ^ 64 := by unfold I64 at hv; omega
        rw [if_pos rfl]
        unfold novationref1_Whole.f novationref1_Plus.f
        rw [if_pos hv, Option.bind_some, if_pos ⟨bigOk_of (Nat.lt_trans hss (by decide)), bigOk_of (Nat.lt_trans hv' (by decide))⟩, Option.bind_some, Int.add_comm, ← hnv, quantity_eq (Nat.lt_of_lt_of_le (m := 2 ^ 96 + 2 ^ 64) (by omega) (by decide)), Option.bind_some]
        refine fin ptr hptr _ _ ?_
        split
        · exact ⟨rfl, rfl⟩
        · rfl
      | false =>
        rw [hb rfl, Int.add_zero] at hnv
        have := fin ptr hptr v true (by
          have hq : qfit v = true := by unfold qfit; rw [(fit_of hv).1]; simpa using hm
          rw [hnv, hq, if_pos rfl]; exact ⟨rfl, rfl⟩)
        rw [if_neg (by simp)] at this
        rw [if_neg (by simp)]
        exact this
    have hz : I64 0 := by decide
    obtain ⟨b2, hb2, hn2⟩ := sh_loop hs hsl (k : Int) (n : Int) (novationref10_Shifted.l2 s k n) (fun _ _ _ _ => by simp only [novationref10_Shifted.l2])
    obtain ⟨b3, hb3, hn3⟩ := sh_loop hs hsl (k : Int) (n : Int) (novationref10_Shifted.l3 s k n) (fun _ _ _ _ => by simp only [novationref10_Shifted.l3])
    obtain ⟨b4, hb4, hn4⟩ := sh_loop hs hsl (k : Int) (n : Int) (novationref10_Shifted.l4 s k n) (fun _ _ _ _ => by simp only [novationref10_Shifted.l4])
    obtain ⟨b5, hb5, hn5⟩ := sh_loop hs hsl (k : Int) (n : Int) (novationref10_Shifted.l5 s k n) (fun _ _ _ _ => by simp only [novationref10_Shifted.l5])
    rcases up_hasP hS.sort (k * 6 + n) with ⟨h1, h2⟩ | ⟨h1, h2⟩
    · have h0 : valK ckP (·.Q) l (k * 6 + n) = 0 := valK_none h1
      have e0 : newq l s (k * 6 + n) = 0 + ssum s k n := by rw [hnew, h0]
      have hno : (upTo ckP l (k * 6 + n)).length < l.length → ¬((rd l (((upTo ckP l (k * 6 + n)).length : Nat) : Int)).Acc = (k : Int) ∧ (rd l (((upTo ckP l (k * 6 + n)).length : Nat) : Int)).Inst = (n : Int)) := by
        rintro hlt ⟨a1, a2⟩
        refine h1 ((at_has hS.sort).2 ⟨hlt, ?_⟩)
        rw [ckP_def, a1, a2]
        omega
      have done' : ∀ b : Bool, (b = false → ssum s k n = 0) → (if b = true then ((novationref1_Whole.f 0).bind fun y => ((novationref1_Plus.f (ssum s k n) y).bind fun y' => ((novationref1_Quantity.f y').bind fun y'' => (if ¬(y''.2 = true) then (some (.ret (([] : List api_Pos), false))) else (if ¬(y''.1 = 0) then (if out.length + 1 ≤ 100000000000 then (novationref10_Shifted.l1 l s k q (out ++ ([(⟨(k : Int), (n : Int), y''.1⟩ : api_Pos)])) (((upTo ckP l (k * 6 + n)).length : Nat) : Int) ((n + 1 : Nat) : Int)) else none) else (novationref10_Shifted.l1 l s k q out (((upTo ckP l (k * 6 + n)).length : Nat) : Int) ((n + 1 : Nat) : Int)))))))
          else (novationref10_Shifted.l1 l s k q out (((upTo ckP l (k * 6 + n)).length : Nat) : Int) ((n + 1 : Nat) : Int))) = some (if (List.range' (k * 6 + n) (d + 1)).all (fitsQ (newq l s)) = true then .out (out ++ (List.range' (k * 6 + n) (d + 1)).flatMap (posItem (newq l s)), ((upTo ckP l (k * 6 + 6)).length : Int), 6) else .ret ([], false)) := fun b hb => by
        have := both 0 hz (by decide) e0 b hb _ h2.symm
        rw [if_neg (c := ¬ ((0 : Int) = 0)) (by simp)] at this
        exact this
      simp only [novationref10_Shifted.l1, e1, hb3, hb4, hb5, Option.bind_some]
      rw [if_pos (by omega)]
      by_cases hlt : ((upTo ckP l (k * 6 + n)).length : Int) < (l.length : Int)
      · rw [if_pos hlt, if_pos (by omega)]
        have hno' := hno (by omega)
        by_cases c1 : (rd l (((upTo ckP l (k * 6 + n)).length : Nat) : Int)).Acc = (k : Int)
        · rw [if_pos c1, if_neg (fun c2 => hno' ⟨c1, c2⟩)]
          exact done' b3 hn3
        · rw [if_neg c1]
          exact done' b4 hn4
      · rw [if_neg hlt]
        exact done' b5 hn5
    · obtain ⟨hlt, hck⟩ := (at_has hS.sort).1 h1
      have hmem := rd_mem hlt
      have hkey := hS.key _ hmem
      unfold posK at hkey
      have hv := valK_mem (v := fun x : api_Pos => x.Q) hS.sort hmem
      rw [hck] at hv
      have hk1 : (rd l (((upTo ckP l (k * 6 + n)).length : Nat) : Int)).Acc = (k : Int) ∧ (rd l (((upTo ckP l (k * 6 + n)).length : Nat) : Int)).Inst = (n : Int) := by
        rw [ckP_def] at hck; omega
      have e0 : newq l s (k * 6 + n) = (rd l (((upTo ckP l (k * 6 + n)).length : Nat) : Int)).Q + ssum s k n := by rw [hnew, hv]
      simp only [novationref10_Shifted.l1, e1, e2, hb2, Option.bind_some]
      rw [if_pos (by omega), if_pos (by omega), if_pos (by omega), if_pos hk1.1, if_pos hk1.2]
      exact both _ (hI _ hlt) (hS.nm _ hmem) e0 b2 hn2 _ h2.symm
theorem shift_l0 {l : List api_Pos} (hS : StockS l) (hI : PosI l) (hl : l.length < 2 ^ 32) {s : List api_Shift} (hs : ShiftI s) (hsl : s.length < 2 ^ 32) : ∀ (d k q : Nat) (out : List api_Pos), k + d = 25 → d < q → out.length + d * 6 ≤ 100000 →
    ∃ e : List api_Pos × Int × Int, novationref10_Shifted.l0 l s q out (upTo ckP l (k * 6)).length k =
      some (if (List.range' (k * 6) (d * 6)).all (fitsQ (newq l s)) = true then .out (out ++ (List.range' (k * 6) (d * 6)).flatMap (posItem (newq l s)), e.2) else .ret ([], false)) := by
  intro d
  induction d with
  | zero =>
    intro k q out hk hq ho
    obtain ⟨q, rfl⟩ : ∃ m, q = m + 1 := ⟨q - 1, by omega⟩
    refine ⟨([], ((upTo ckP l (k * 6)).length : Int), k), ?_⟩
    simp only [novationref10_Shifted.l0]
    rw [if_neg (by omega)]
    simp
  | succ d ih =>
    intro k q out hk hq ho
    obtain ⟨q, rfl⟩ : ∃ m, q = m + 1 := ⟨q - 1, by omega⟩
    have e1 := wsucc (i := k) (by omega)
    have h1 := shift_l1 hS hI hl hs hsl k (by omega) 6 0 FUEL out (by omega) (by unfold FUEL; omega) (by omega)
    have hlen : ((List.range' (k * 6) 6).flatMap (posItem (newq l s))).length ≤ 6 := by
      have : ∀ (d c : Nat), ((List.range' c d).flatMap (posItem (newq l s))).length ≤ d := by
        intro d
        induction d with
        | zero => intro c; simp
        | succ d ih => intro c; rw [List.range'_succ, List.flatMap_cons, List.length_append]; have := ih (c + 1); have := posItem_len (newq l s) c; omega
      exact this 6 _
    obtain ⟨e, h2⟩ := ih (k + 1) q (out ++ (List.range' (k * 6) 6).flatMap (posItem (newq l s))) (by omega) (by omega) (by rw [List.length_append]; omega)
    refine ⟨e, ?_⟩
    have er : List.range' (k * 6) ((d + 1) * 6) = List.range' (k * 6) 6 ++ List.range' ((k + 1) * 6) (d * 6) := by
      rw [show (d + 1) * 6 = 6 + d * 6 by omega, show (k + 1) * 6 = k * 6 + 6 by omega, List.range'_append_1]
    simp only [novationref10_Shifted.l0, e1]
    rw [if_pos (by omega)]
    rw [Nat.add_zero] at h1
    rw [show ((0 : Nat) : Int) = 0 from rfl] at h1
    rw [h1, Option.bind_some, flow_ifL, er, List.all_append, List.flatMap_append]
    cases ha : (List.range' (k * 6) 6).all (fitsQ (newq l s)) with
    | false => simp
    | true =>
      rw [if_pos rfl, show k * 6 + 6 = (k + 1) * 6 by omega, h2, Bool.true_and, List.append_assoc]
theorem rShifted_eq {l : List api_Pos} (hS : StockS l) (hI : PosI l) (hl : l.length < 2 ^ 32) {s : List api_Shift} (hs : ShiftI s) (hsl : s.length < 2 ^ 32) : novationref10_Shifted.f l s = some (shiftedOf (newq l s)) := by
  unfold novationref10_Shifted.f shiftedOf codesP
  have h0 : (upTo ckP l (0 * 6)).length = 0 := by
    have : upTo ckP l 0 = [] := by
      unfold upTo
      cases l with
      | nil => rfl
      | cons x r => rw [List.takeWhile_cons, if_neg (by simp)]
    rw [Nat.zero_mul, this]; rfl
  obtain ⟨e, h1⟩ := shift_l0 hS hI hl hs hsl 25 0 FUEL [] (by omega) (by unfold FUEL; omega) (by simp)
  rw [h0] at h1
  have h1' : novationref10_Shifted.l0 l s FUEL [] 0 0 = _ := h1
  rw [h1', Option.bind_some, flow_if, List.nil_append]
  split <;> rfl
end Go.Ax

/- Shifts posted, by the reference. -/
set_option linter.unusedVariables false
set_option linter.unusedSimpArgs false
set_option maxRecDepth 100000
set_option maxHeartbeats 4000000
namespace Go.Ax
open Go
def isum (s : List api_Shift) (j : Nat) : Int := ((s.filter (fun x => decide (x.Inst = (j : Int)))).map (·.Q)).sum
theorem isum_le {s : List api_Shift} (h : ShiftI s) (hl : s.length < 2 ^ 32) (j : Nat) : (isum s j).natAbs < 2 ^ 96 := by
  unfold isum
  have h1 := sum_bound ((s.filter (fun x => decide (x.Inst = (j : Int)))).map (·.Q)) (fun x hx => by
    obtain ⟨y, hy, rfl⟩ := List.mem_map.1 hx
    exact h y (List.mem_filter.1 hy).1)
  rw [List.length_map] at h1
  have h2 := List.length_filter_le (fun x : api_Shift => decide (x.Inst = (j : Int))) s
  have h4 : (s.filter (fun x => decide (x.Inst = (j : Int)))).length * 9223372036854775808 ≤ 2 ^ 32 * 9223372036854775808 := Nat.mul_le_mul_right _ (by omega)
  have h5 : 2 ^ 32 * 9223372036854775808 < 2 ^ 96 := by decide
  omega
theorem isum_succ {s : List api_Shift} {i : Nat} (hi : i < s.length) (j : Nat) : isum (s.take (i + 1)) j = if (rd s (i : Int)).Inst = (j : Int) then isum (s.take i) j + (rd s (i : Int)).Q else isum (s.take i) j := by
  unfold isum
  rw [take_succ_rd s hi, List.filter_append, List.map_append, List.sum_append]
  by_cases hc : (rd s (i : Int)).Inst = (j : Int)
  · rw [if_pos hc, List.filter_cons_of_pos (by simpa using hc)]; simp
  · rw [if_neg hc, List.filter_cons_of_neg (by simpa using hc)]; simp
def shiftOk (x : api_Shift) : Prop := posK x.Acc x.Inst ∧ x.Q ≠ -9223372036854775808
instance (x : api_Shift) : Decidable (shiftOk x) := by unfold shiftOk; infer_instance
def shiftsOk (s : List api_Shift) : Prop := ∀ x ∈ s, shiftOk x
instance (s : List api_Shift) : Decidable (shiftsOk s) := by unfold shiftsOk; infer_instance
def flatS (s : List api_Shift) : Prop := ∀ j : Nat, j < 6 → isum s j = 0
instance (s : List api_Shift) : Decidable (flatS s) := by unfold flatS; infer_instance
def postS (l : List api_Pos) (s : List api_Shift) : List api_Pos × Int :=
  if ¬(stockOk l = true) ∨ s.length > 400 ∨ ¬ shiftsOk s ∨ ¬ flatS s then ([], 1) else if (shiftedOf (newq l s)).2 = true then ((shiftedOf (newq l s)).1, 0) else ([], 2)
theorem rd_setS {α : Type} [Inhabited α] (l : List α) {i j : Nat} (x : α) (h : j < l.length) : rd (l.set i x) (j : Int) = if i = j then x else rd l (j : Int) := by
  simp only [rd, Int.toNat_natCast, List.getElem?_set]
  by_cases e : i = j
  · subst e; simp [h]
  · simp [e]
theorem shiftsOk_succ {s : List api_Shift} {i : Nat} (hi : i < s.length) : shiftsOk (s.take (i + 1)) ↔ shiftsOk (s.take i) ∧ shiftOk (rd s (i : Int)) := by
  unfold shiftsOk
  rw [take_succ_rd s hi]
  constructor
  · intro h; exact ⟨fun x hx => h x (List.mem_append_left _ hx), h _ (List.mem_append_right _ (List.mem_singleton.2 rfl))⟩
  · rintro ⟨h1, h2⟩ x hx
    rcases List.mem_append.1 hx with hx | hx
    · exact h1 x hx
    · rw [List.mem_singleton.1 hx]; exact h2
theorem rPostStock_eq {l : List api_Pos} (hI : PosI l) (hl : l.length < 2 ^ 32) {s : List api_Shift} (hs : ShiftI s) (hsl : s.length < 2 ^ 32) : novationref10_PostStock.f l s = some (postS l s) := by
  unfold novationref10_PostStock.f postS
  rw [rStock_eq l (by omega), Option.bind_some]
  by_cases hr : stockOk l = true
  · rw [if_neg (by simp [hr])]
    by_cases h400 : (s.length : Int) > 400
    · rw [if_pos h400, if_pos (.inr (.inl (by omega)))]
    · rw [if_neg h400, if_pos (by omega)]
      have h := loop_inv (fun q (p : List Int × Nat) => novationref10_PostStock.l0 s q p.1 (p.2 : Int)) (fun p => p.2 ≤ s.length ∧ p.1.length = 6 ∧ (∀ j : Nat, j < 6 → rd p.1 (j : Int) = isum (s.take p.2) j) ∧ shiftsOk (s.take p.2)) (fun p => s.length - p.2)
        (fun r => if shiftsOk s then ∃ t : List Int, r = .out (t, (s.length : Int)) ∧ t.length = 6 ∧ ∀ j : Nat, j < 6 → rd t (j : Int) = isum s j else r = .ret ([], 1))
        (fun q p hp => by
          obtain ⟨t, i⟩ := p
          obtain ⟨h1, h2, h3, h4⟩ := hp
          simp only at h1 h2 h3 h4
          by_cases hi : i < s.length
          · have e1 := wsucc (i := i) (by omega)
            have hsx := shiftsOk_succ hi
            have hQ := hs _ (rd_mem hi)
            have hQ' : (rd s (i : Int)).Q.natAbs < 2 ^ 64 := by unfold I64 at hQ; omega
            simp only [novationref10_PostStock.l0, e1]
            rw [if_pos (by omega), if_pos (by omega)]
            by_cases hk : shiftOk (rd s (i : Int))
            · left
              have hk' := hk
              unfold shiftOk posK at hk'
              obtain ⟨n, hn⟩ := Int.eq_ofNat_of_zero_le hk'.1.2.2.1
              have hn6 : n < 6 := by omega
              rw [if_neg (by omega), if_neg (by omega), if_neg (by omega), if_neg (by omega), if_neg (by omega), if_pos (by omega)]
              have hb := isum_le (fun x hx => hs x (List.mem_of_mem_take hx)) (show (s.take i).length < 2 ^ 32 by rw [List.length_take]; omega) n
              unfold novationref1_Whole.f novationref1_Plus.f
              rw [if_pos hQ, Option.bind_some, hn, h3 n hn6, if_pos ⟨bigOk_of (Nat.lt_trans hb (by decide)), bigOk_of (Nat.lt_trans hQ' (by decide))⟩, Option.bind_some]
              refine ⟨(t.set (Int.toNat (n : Int)) (isum (s.take i) n + (rd s (i : Int)).Q), i + 1), rfl, ⟨by simp only; omega, by simp [h2], fun j hj => ?_, hsx.2 ⟨h4, hk⟩⟩, by simp only; omega⟩
              simp only
              rw [Int.toNat_natCast, rd_setS t _ (by omega), isum_succ hi, hn]
              by_cases ej : n = j
              · subst ej; rw [if_pos rfl, if_pos rfl]
              · rw [if_neg ej, if_neg (by omega), h3 j hj]
            · right
              have hno : ¬ shiftsOk s := fun h => hk (h _ (rd_mem hi))
              refine ⟨.ret ([], 1), ?_, by rw [if_neg hno]⟩
              have hk' := hk
              unfold shiftOk posK at hk'
              repeat' (first | with_reducible rfl | refine ifr (fun _ => ?_) (fun _ => ?_))
              all_goals (exfalso; omega)
          · right
            have : i = s.length := by omega
            subst this
            rw [List.take_length] at h3 h4
            refine ⟨.out (t, (s.length : Int)), ?_, ?_⟩
            · show novationref10_PostStock.l0 s (q + 1) t (s.length : Int) = _
              simp only [novationref10_PostStock.l0]; rw [if_neg (by omega)]
            · rw [if_pos h4]; exact ⟨t, rfl, h2, h3⟩)
        (s0 := (List.replicate (6 : Int).toNat 0, 0)) ⟨Nat.zero_le _, rfl, fun j hj => by
          simp only [rd, Int.toNat_natCast, List.take_zero]
          have : (List.replicate (6 : Int).toNat (0 : Int))[j]? = some 0 := by rw [List.getElem?_replicate]; simp; omega
          rw [this]; rfl, by intro x hx; simp at hx⟩ (by simp only; omega)
      obtain ⟨r, h1, h2⟩ := h
      rw [show ((0 : Nat) : Int) = 0 from rfl] at h1
      rw [h1, Option.bind_some]
      by_cases hk : shiftsOk s
      · rw [if_pos hk] at h2
        obtain ⟨t, rfl, ht, hj⟩ := h2
        rw [Flow.go_out]
        rw [loop_allg (fun q i => novationref10_PostStock.l1 (t, (s.length : Int)) q i) 6 (fun j => isum s j = 0) ([], 1) (6 : Int) _ (fun q i hi hP => ?_) (fun q i hi hP => ?_) (fun q => ?_) (by omega)]
        · by_cases hf : flatS s
          · rw [if_pos (c := ∀ i : Nat, i < 6 → isum s i = 0) hf, rShifted_eq (stockOk_S.1 hr) hI hl hs hsl, Option.bind_some, if_neg (c := _ ∨ _) (by
              rintro (h | h | h | h)
              · exact h hr
              · omega
              · exact h hk
              · exact h hf)]
            by_cases hg : (shiftedOf (newq l s)).2 = true
            · rw [if_neg (by simp [hg]), if_pos hg]
            · rw [if_pos hg, if_neg hg]
          · rw [if_neg (c := ∀ i : Nat, i < 6 → isum s i = 0) hf, if_pos (.inr (.inr (.inr hf)))]
        · have e1 := wsucc (i := i) (by omega)
          have hb := isum_le hs hsl i
          simp only [novationref10_PostStock.l1, e1]
          rw [if_pos (by omega), if_pos (by omega), hj i hi]
          unfold novationref1_Sign.f
          rw [if_pos (bigOk_of (Nat.lt_trans hb (by decide))), Option.bind_some, if_neg (fun h => h ((cmpI_zero _).2 hP))]
        · have e1 := wsucc (i := i) (by omega)
          have hb := isum_le hs hsl i
          simp only [novationref10_PostStock.l1, e1]
          rw [if_pos (by omega), if_pos (by omega), hj i hi]
          unfold novationref1_Sign.f
          rw [if_pos (bigOk_of (Nat.lt_trans hb (by decide))), Option.bind_some, if_pos (fun h => hP ((cmpI_zero _).1 h))]
        · simp only [novationref10_PostStock.l1]; rw [if_neg (by omega)]; rfl
      · rw [if_neg hk] at h2
        rw [h2, Flow.go_ret, if_pos (.inr (.inr (.inl hk)))]
  · rw [if_pos hr, if_pos (.inl hr)]
end Go.Ax

/- Rows: the program's answers and the reference's are the same ones. -/
set_option linter.unusedVariables false
set_option linter.unusedSimpArgs false
set_option maxRecDepth 100000
set_option maxHeartbeats 4000000
namespace Go.Ax
open Go
def keyOk (k n : Int) : Prop := (k = 1 ∨ k = 2 ∨ k = 3 ∨ k = 4) ∧ n = 0 ∨ k = 5 ∧ 1 ≤ n ∧ n ≤ 24 ∨ (k = 6 ∨ k = 7) ∧ 1 ≤ n ∧ n ≤ 12
instance (k n : Int) : Decidable (keyOk k n) := by unfold keyOk; infer_instance
theorem some_beq {a b : Int} {P : Prop} [Decidable P] (h : a = b ↔ P) : some (a == b) = some (decide P) := by
  by_cases e : a = b
  · have hp := h.1 e; subst e; simp [hp]
  · have hp : ¬P := fun hp => e (h.2 hp); simp [e, hp]
theorem some_dec {Q P : Prop} [Decidable Q] [Decidable P] (h : Q ↔ P) : some (decide Q) = some (decide P) := by rw [decide_eq_decide.2 h]
theorem some_false {P : Prop} [Decidable P] (h : ¬P) : some false = some (decide P) := by rw [decide_eq_false h]
theorem ledger_Key_eq (k n : Int) : ledger_Key.f k n = some (decide (keyOk k n)) := by
  unfold ledger_Key.f
  repeat' (first | refine ifr (fun _ => ?_) (fun _ => ?_))
  all_goals (try (exfalso; omega))
  all_goals unfold keyOk
  all_goals first | exact some_beq (by omega) | exact some_dec (by omega) | exact some_false (by omega)
theorem rKey_eq (k n : Int) : novationref10_Key.f k n = some (decide (keyOk k n)) := ledger_Key_eq k n
def ordR (x p : api_Row) : Int := if ¬(x.Kind = p.Kind) then IntKind.i64.wrap (x.Kind - p.Kind) else IntKind.i64.wrap (x.N - p.N)
theorem ledger_order_eq (x p : api_Row) : ledger_order.f x.Kind x.N p = some (ordR x p) := by
  unfold ledger_order.f ordR
  split <;> rfl
def ltR (p x : api_Row) : Prop := p.Kind < x.Kind ∨ p.Kind = x.Kind ∧ p.N < x.N
instance (p x : api_Row) : Decidable (ltR p x) := by unfold ltR; infer_instance
def rowP (l : List api_Row) (i : Nat) : Prop := keyOk (rd l (i : Int)).Kind (rd l (i : Int)).N ∧ ¬(rd l (i : Int)).Sum = 0 ∧ (0 < i → ltR (rd l ((i : Int) - 1)) (rd l (i : Int)))
instance (l : List api_Row) : DecidablePred (rowP l) := fun i => by unfold rowP; infer_instance
def rowQ (l : List api_Row) (i : Nat) : Prop := keyOk (rd l (i : Int)).Kind (rd l (i : Int)).N ∧ ¬(rd l (i : Int)).Sum = 0 ∧ (0 < i → ¬ ordR (rd l (i : Int)) (rd l ((i : Int) - 1)) ≤ 0)
instance (l : List api_Row) : DecidablePred (rowQ l) := fun i => by unfold rowQ; infer_instance
def rowsOk (l : List api_Row) : Bool := decide (∀ i, i < l.length → rowP l i)
theorem ordR_lt {x p : api_Row} (hx : keyOk x.Kind x.N) (hp : keyOk p.Kind p.N) : ¬ ordR x p ≤ 0 ↔ ltR p x := by
  unfold keyOk at hx hp
  have e1 : IntKind.i64.wrap (x.Kind - p.Kind) = x.Kind - p.Kind := i64_wrap _ (by omega) (by omega)
  have e2 : IntKind.i64.wrap (x.N - p.N) = x.N - p.N := i64_wrap _ (by omega) (by omega)
  unfold ordR ltR
  rw [e1, e2]
  split <;> omega
theorem rowQ_all (l : List api_Row) : (∀ i, i < l.length → rowQ l i) ↔ (∀ i, i < l.length → rowP l i) := by
  constructor
  · intro h i hi
    have h1 := h i hi
    refine ⟨h1.1, h1.2.1, fun h0 => ?_⟩
    have hp := (h (i - 1) (by omega)).1
    rw [show ((i - 1 : Nat) : Int) = (i : Int) - 1 by omega] at hp
    exact (ordR_lt h1.1 hp).1 (h1.2.2 h0)
  · intro h i hi
    have h1 := h i hi
    refine ⟨h1.1, h1.2.1, fun h0 => ?_⟩
    have hp := (h (i - 1) (by omega)).1
    rw [show ((i - 1 : Nat) : Int) = (i : Int) - 1 by omega] at hp
    exact (ordR_lt h1.1 hp).2 (h1.2.2 h0)
theorem ledger_Right_eq (l : List api_Row) (hl : l.length < 2 ^ 59) : ledger_Right.f l = some (rowsOk l) := by
  unfold ledger_Right.f rowsOk
  rw [loop_allg (fun k i => ledger_Right.l0 l k i) l.length (rowQ l) false (l.length : Int) _ (fun k i hi hP => ?_) (fun k i hi hP => ?_) (fun k => ?_) hl]
  · rw [if_dec, decide_eq_decide.2 (rowQ_all l)]
  · have e1 := wsucc (i := i) (by omega)
    have e2 := wpred (i := i) (by omega)
    simp only [ledger_Right.l0, e1, e2, ledger_Key_eq, ledger_order_eq, Option.bind_some, decide_eq_true_eq]
    obtain ⟨h1, h2, h3⟩ := hP
    rw [if_pos (by omega), if_pos (by omega), if_neg (fun h => h h1), if_neg h2]
    by_cases h0 : 0 < i
    · rw [if_pos (by omega), if_pos (by omega), if_neg (h3 h0)]
    · rw [if_neg (by omega)]
  · have e1 := wsucc (i := i) (by omega)
    have e2 := wpred (i := i) (by omega)
    simp only [ledger_Right.l0, e1, e2, ledger_Key_eq, ledger_order_eq, Option.bind_some, decide_eq_true_eq]
    rw [if_pos (by omega), if_pos (by omega)]
    by_cases h1 : keyOk (rd l (i : Int)).Kind (rd l (i : Int)).N
    · rw [if_neg (fun h => h h1)]
      by_cases h2 : (rd l (i : Int)).Sum = 0
      · rw [if_pos h2]
      · rw [if_neg h2]
        by_cases h0 : 0 < i
        · rw [if_pos (by omega), if_pos (by omega)]
          by_cases h3 : ordR (rd l (i : Int)) (rd l ((i : Int) - 1)) ≤ 0
          · rw [if_pos h3]
          · exact absurd ⟨h1, h2, fun _ => h3⟩ hP
        · exact absurd ⟨h1, h2, fun h => absurd h h0⟩ hP
    · rw [if_pos h1]
  · simp only [ledger_Right.l0]; rw [if_neg (by omega)]
theorem rRows_eq (l : List api_Row) (hl : l.length < 2 ^ 59) : novationref10_Rows.f l = some (rowsOk l) := by
  unfold novationref10_Rows.f rowsOk
  rw [loop_allg (fun k i => novationref10_Rows.l0 l k i) l.length (rowP l) false (l.length : Int) _ (fun k i hi hP => ?_) (fun k i hi hP => ?_) (fun k => ?_) hl]
  · rw [if_dec]
  · have e1 := wsucc (i := i) (by omega)
    have e2 := wpred (i := i) (by omega)
    simp only [novationref10_Rows.l0, e1, e2, rKey_eq, Option.bind_some, decide_eq_true_eq]
    obtain ⟨h1, h2, h3⟩ := hP
    unfold ltR at h3
    rw [if_pos (by omega), if_pos (by omega), if_neg (fun h => h h1), if_neg h2]
    repeat' (first | with_reducible rfl | (exfalso; omega) | refine ifr (fun _ => ?_) (fun _ => ?_))
  · have e1 := wsucc (i := i) (by omega)
    have e2 := wpred (i := i) (by omega)
    simp only [novationref10_Rows.l0, e1, e2, rKey_eq, Option.bind_some, decide_eq_true_eq]
    rw [if_pos (by omega), if_pos (by omega)]
    by_cases h1 : keyOk (rd l (i : Int)).Kind (rd l (i : Int)).N
    · rw [if_neg (fun h => h h1)]
      by_cases h2 : (rd l (i : Int)).Sum = 0
      · rw [if_pos h2]
      · rw [if_neg h2]
        have h3 : ¬(0 < i → ltR (rd l ((i : Int) - 1)) (rd l (i : Int))) := fun h => hP ⟨h1, h2, h⟩
        unfold ltR at h3
        repeat' (first | with_reducible rfl | (exfalso; omega) | refine ifr (fun _ => ?_) (fun _ => ?_))
    · rw [if_pos h1]
  · simp only [novationref10_Rows.l0]; rw [if_neg (by omega)]
def RowI (l : List api_Row) : Prop := ∀ i, i < l.length → I64 (rd l (i : Int)).Sum
def rowSum (l : List api_Row) : Int := (l.map (·.Sum)).sum
theorem row_vals {l : List api_Row} (hI : RowI l) : ∀ x ∈ l.map (·.Sum), I64 x := by
  intro x hx
  obtain ⟨y, hy, rfl⟩ := List.mem_map.1 hx
  obtain ⟨i, hi, rfl⟩ := mem_rd hy
  exact hI i hi
theorem all_wfit {l : List Int} (h : ∀ x ∈ l, I64 x) : l.all wfit = true := by
  rw [List.all_eq_true]
  intro x hx
  have := h x hx
  unfold I64 at this
  exact decide_eq_true ⟨by omega, by omega⟩
theorem ledger_Total_eq {l : List api_Row} (hI : RowI l) (hl : l.length < 2 ^ 32) : ledger_Total.f l = some (if rowsOk l = true then rowSum l else 0) := by
  unfold ledger_Total.f
  rw [ledger_Right_eq l (by omega), Option.bind_some]
  by_cases hs : rowsOk l = true
  · rw [if_neg (by simp [hs]), if_pos hs]
    have h := loop_gather (fun k s i => ledger_Total.l0 l k s i) l (fun x => [x.Sum]) (fun k i s hi e => ?_) (fun k s => ?_) (by omega)
    · rw [h, Option.bind_some]
      simp only
      rw [flatMap_one (fun x : api_Row => x.Sum)]
      have hv := row_vals hI
      have hw := sum_wid hv (by rw [List.length_map]; omega)
      unfold wide_Sum.f
      rw [if_pos ⟨all_wfit hv, by rw [List.length_map]; omega⟩, Option.bind_some]
      unfold rowSum wfitV
      rw [if_pos hw.1]
    · have e1 := wsucc (i := i) (by omega)
      have hQ := hI i hi
      have hlen : s.length ≤ i := by
        rw [e, flatMap_one (fun x : api_Row => x.Sum), List.length_map, List.length_take]; omega
      simp only [ledger_Total.l0, e1]
      rw [if_pos (by omega), if_pos (by omega)]
      unfold wide_Of.f
      rw [if_pos hQ, Option.bind_some, if_pos (by omega)]
    · simp only [ledger_Total.l0]; rw [if_neg (by omega)]
  · rw [if_pos hs, if_neg hs]
theorem foldl_sum {α : Type} (f : α → Int) (l : List α) (s : Int) : l.foldl (fun t x => t + f x) s = s + (l.map f).sum := by
  induction l generalizing s with
  | nil => simp
  | cons x l ih => rw [List.foldl_cons, ih]; simp; omega
theorem rTotal_eq {l : List api_Row} (hI : RowI l) (hl : l.length < 2 ^ 32) : novationref10_Total.f l = some (if rowsOk l = true then rowSum l else 0) := by
  unfold novationref10_Total.f
  rw [rRows_eq l (by omega), Option.bind_some]
  by_cases hs : rowsOk l = true
  · rw [if_neg (by simp [hs]), if_pos hs]
    have h := loop_sum (fun k s i => novationref10_Total.l0 l k s i) l (fun t x => t + x.Sum) (fun i s => s.natAbs ≤ i * 9223372036854775808) 0 (by simp) (fun k i s hi hb e => ?_) (fun k s => ?_) (by omega)
    · rw [h, Option.bind_some]
      simp only
      rw [foldl_sum (fun x : api_Row => x.Sum), Int.zero_add]
      rfl
    · have e1 := wsucc (i := i) (by omega)
      have hQ := hI i hi
      have hQ' := hQ
      unfold I64 at hQ'
      have hb1 : i * 9223372036854775808 ≤ 2 ^ 32 * 9223372036854775808 := Nat.mul_le_mul_right _ (by omega)
      have hB : BigOk s := bigOk_of (Nat.lt_of_le_of_lt (Nat.le_trans hb hb1) (by decide))
      have hB2 : BigOk (rd l (i : Int)).Sum := bigOk_of (Nat.lt_of_le_of_lt (m := 2 ^ 64) (by omega) (by decide))
      simp only [novationref10_Total.l0, e1]
      refine ⟨?_, ?_⟩
      · rw [if_pos (by omega), if_pos (by omega)]
        unfold novationref1_Whole.f novationref1_Plus.f
        rw [if_pos hQ, Option.bind_some, if_pos ⟨hB, hB2⟩, Option.bind_some]
      · rw [Nat.add_mul]
        omega
    · show novationref10_Total.l0 l (k + 1) s (l.length : Int) = _
      rw [novationref10_Total.l0, if_neg (Int.lt_irrefl _)]
  · rw [if_pos hs, if_neg hs]
theorem rowSum_big {l : List api_Row} (hI : RowI l) (hl : l.length < 2 ^ 32) : BigOk (rowSum l) := (sum_wid (row_vals hI) (by rw [List.length_map]; omega)).2
/-- A row's sum. -/
def getOf (l : List api_Row) (k n : Int) : Int := match l.find? (fun x => decide (x.Kind = k ∧ x.N = n)) with | some x => x.Sum | none => 0
def getR (l : List api_Row) (k n : Int) : Int := if rowsOk l = true then getOf l k n else 0
theorem ledger_Get_eq (l : List api_Row) (k n : Int) (hl : l.length < 2 ^ 59) : ledger_Get.f l k n = some (getR l k n) := by
  have h := loop_find1 (fun q i => ledger_Get.l0 l k n q i) l (fun x => decide (x.Kind = k ∧ x.N = n)) (fun x => x.Sum) (l.length : Int) (fun q i hi => ?_) (fun k => ?_) hl
  · unfold ledger_Get.f getR getOf
    rw [ledger_Right_eq l hl, h]
    simp only [Option.bind_some]
    by_cases hm : rowsOk l = true
    · rw [if_neg (by simp [hm]), if_pos hm]
      cases l.find? (fun x => decide (x.Kind = k ∧ x.N = n)) <;> rfl
    · rw [if_pos hm, if_neg hm]
  · have e1 := wsucc (i := i) (by omega)
    simp only [ledger_Get.l0, e1, decide_eq_true_eq]
    rw [if_pos (by omega), if_pos (by omega)]
    repeat' (first | with_reducible rfl | (exfalso; omega) | refine ifr (fun _ => ?_) (fun _ => ?_) | refine ifl (fun _ => ?_) (fun _ => ?_))
  · simp only [ledger_Get.l0]; rw [if_neg (by omega)]
theorem rGet_eq (l : List api_Row) (k n : Int) (hl : l.length < 2 ^ 59) : novationref10_Get.f l k n = some (getR l k n) := by
  have h := loop_find1 (fun q i => novationref10_Get.l0 l k n q i) l (fun x => decide (x.Kind = k ∧ x.N = n)) (fun x => x.Sum) (l.length : Int) (fun q i hi => ?_) (fun k => ?_) hl
  · unfold novationref10_Get.f getR getOf
    rw [rRows_eq l hl, h]
    simp only [Option.bind_some]
    by_cases hm : rowsOk l = true
    · rw [if_neg (by simp [hm]), if_pos hm]
      cases l.find? (fun x => decide (x.Kind = k ∧ x.N = n)) <;> rfl
    · rw [if_pos hm, if_neg hm]
  · have e1 := wsucc (i := i) (by omega)
    simp only [novationref10_Get.l0, e1, decide_eq_true_eq]
    rw [if_pos (by omega), if_pos (by omega)]
    repeat' (first | with_reducible rfl | (exfalso; omega) | refine ifr (fun _ => ?_) (fun _ => ?_) | refine ifl (fun _ => ?_) (fun _ => ?_))
  · simp only [novationref10_Get.l0]; rw [if_neg (by omega)]
theorem getR_i64 {l : List api_Row} (hI : RowI l) (k n : Int) : I64 (getR l k n) := by
  unfold getR getOf
  split
  · split
    · rename_i x h
      obtain ⟨i, hi, rfl⟩ := mem_rd (List.mem_of_find?_eq_some h)
      exact hI i hi
    · decide
  · decide
end Go.Ax

/- Rows with parts laid: the reference's answer. -/
set_option linter.unusedVariables false
set_option linter.unusedSimpArgs false
set_option maxRecDepth 100000
set_option maxHeartbeats 4000000
namespace Go.Ax
open Go
theorem sort_of_adj {α : Type} [Inhabited α] {ck : α → Nat} {l : List α} (h : ∀ i : Nat, 0 < i → i < l.length → ck (rd l ((i : Int) - 1)) < ck (rd l (i : Int))) : SortK ck l := by
  induction l with
  | nil => exact List.Pairwise.nil
  | cons x l ih =>
    have hrd : ∀ i : Nat, rd (x :: l) ((i + 1 : Nat) : Int) = rd l (i : Int) := fun i => by simp [rd]
    have ih' := ih fun i h0 hi => by
      have h1 := h (i + 1) (by omega) (by simpa using hi)
      rw [hrd] at h1
      have e : ((i + 1 : Nat) : Int) - 1 = (((i - 1) + 1 : Nat) : Int) := by omega
      rw [e, hrd] at h1
      have e2 : ((i : Int) - 1) = ((i - 1 : Nat) : Int) := by omega
      rw [e2]; exact h1
    refine List.pairwise_cons.2 ⟨fun y hy => ?_, ih'⟩
    cases l with
    | nil => cases hy
    | cons z r =>
      have h1 := h 1 (by omega) (by simp)
      have e0 : rd (x :: z :: r) (((1 : Nat) : Int) - 1) = x := by simp [rd]
      have e1 : rd (x :: z :: r) ((1 : Nat) : Int) = z := by simp [rd]
      rw [e0, e1] at h1
      rcases List.mem_cons.1 hy with rfl | hy
      · exact h1
      · have := (List.pairwise_cons.1 ih').1 y hy; omega
theorem adj_of_sort {α : Type} [Inhabited α] {ck : α → Nat} {l : List α} (hs : SortK ck l) {i : Nat} (h0 : 0 < i) (hi : i < l.length) : ck (rd l ((i : Int) - 1)) < ck (rd l (i : Int)) := by
  have e : ((i : Int) - 1) = ((i - 1 : Nat) : Int) := by omega
  rw [e, rd_get l hi, rd_get l (show i - 1 < l.length by omega)]
  exact List.pairwise_iff_getElem.1 hs (i - 1) i (by omega) hi (by omega)
/-- A row's place. -/
def ckR (x : api_Row) : Nat := (x.Kind * 25 + x.N).toNat
theorem keyOk_range {k n : Int} (h : keyOk k n) : 1 ≤ k ∧ k ≤ 7 ∧ 0 ≤ n ∧ n ≤ 24 := by unfold keyOk at h; omega
theorem ckR_eq {x : api_Row} (h : keyOk x.Kind x.N) : ((ckR x : Nat) : Int) = x.Kind * 25 + x.N ∧ 25 ≤ ckR x ∧ ckR x < 200 := by
  have := keyOk_range h
  unfold ckR; omega
structure RowsS (l : List api_Row) : Prop where
  sort : SortK ckR l
  key : ∀ x ∈ l, keyOk x.Kind x.N
  nz : ∀ x ∈ l, x.Sum ≠ 0
theorem rowsOk_S {l : List api_Row} : rowsOk l = true ↔ RowsS l := by
  unfold rowsOk
  rw [decide_eq_true_iff]
  constructor
  · intro h
    have hk : ∀ i, i < l.length → keyOk (rd l (i : Int)).Kind (rd l (i : Int)).N := fun i hi => (h i hi).1
    refine ⟨sort_of_adj fun i h0 hi => ?_, fun x hx => ?_, fun x hx => ?_⟩
    · have h1 := (h i hi).2.2 h0
      have h2 := keyOk_range (hk i hi)
      have h3 := keyOk_range (hk (i - 1) (by omega))
      have e : ((i : Int) - 1) = ((i - 1 : Nat) : Int) := by omega
      rw [← e] at h3
      unfold ltR at h1
      unfold ckR
      omega
    · obtain ⟨i, hi, rfl⟩ := mem_rd hx; exact hk i hi
    · obtain ⟨i, hi, rfl⟩ := mem_rd hx; exact (h i hi).2.1
  · intro h i hi
    refine ⟨h.key _ (rd_mem hi), h.nz _ (rd_mem hi), fun h0 => ?_⟩
    have h1 := adj_of_sort h.sort h0 hi
    have h2 := keyOk_range (h.key _ (rd_mem hi))
    have e : ((i : Int) - 1) = ((i - 1 : Nat) : Int) := by omega
    have h3 := keyOk_range (h.key _ (rd_mem (l := l) (i := i - 1) (by omega)))
    rw [← e] at h3
    unfold ltR
    unfold ckR at h1
    omega
theorem getOf_val {l : List api_Row} (hk : ∀ x ∈ l, keyOk x.Kind x.N) {k n : Int} (h1 : 0 ≤ k) (h2 : 0 ≤ n) (h3 : n ≤ 24) : getOf l k n = valK ckR (·.Sum) l (k * 25 + n).toNat := by
  unfold getOf valK
  have e : l.find? (fun x => decide (x.Kind = k ∧ x.N = n)) = l.find? (fun x => decide (ckR x = (k * 25 + n).toNat)) := by
    induction l with
    | nil => rfl
    | cons x l ih =>
      rw [List.find?_cons, List.find?_cons, ih fun y hy => hk y (by simp [hy])]
      have h4 := keyOk_range (hk x (by simp))
      have : decide (x.Kind = k ∧ x.N = n) = decide (ckR x = (k * 25 + n).toNat) := by
        rw [decide_eq_decide]
        unfold ckR
        omega
      rw [this]
  rw [e]
  cases l.find? (fun x => decide (ckR x = (k * 25 + n).toNat)) <;> rfl
/-! ### Parts -/
def psum (p : List novationref10_Part) (k n : Int) : Int := ((p.filter (fun x => decide (x.Kind = k ∧ x.N = n))).map (·.X)).sum
def PartB (p : List novationref10_Part) : Prop := p.length < 2 ^ 32 ∧ ∀ x ∈ p, x.X.natAbs < 2 ^ 200
theorem sum_natAbs (l : List Int) (B : Nat) (h : ∀ x ∈ l, x.natAbs < B) : (l.sum).natAbs ≤ l.length * B := by
  induction l with
  | nil => simp
  | cons x l ih =>
    have h1 := ih fun y hy => h y (List.mem_cons_of_mem _ hy)
    have h2 := h x (List.mem_cons_self ..)
    rw [List.sum_cons, List.length_cons, Nat.add_mul]
    omega
theorem psum_le {p : List novationref10_Part} (hp : PartB p) (k n : Int) : (psum p k n).natAbs < 2 ^ 232 := by
  unfold psum
  have h1 := sum_natAbs ((p.filter (fun x => decide (x.Kind = k ∧ x.N = n))).map (·.X)) (2 ^ 200) (fun x hx => by
    obtain ⟨y, hy, rfl⟩ := List.mem_map.1 hx
    exact hp.2 y (List.mem_filter.1 hy).1)
  rw [List.length_map] at h1
  have h2 := List.length_filter_le (fun x : novationref10_Part => decide (x.Kind = k ∧ x.N = n)) p
  have h3 := hp.1
  have h4 : (p.filter (fun x => decide (x.Kind = k ∧ x.N = n))).length * 2 ^ 200 ≤ (2 ^ 32 - 1) * 2 ^ 200 := Nat.mul_le_mul_right _ (by omega)
  have h5 : (2 ^ 32 - 1) * 2 ^ 200 < 2 ^ 232 := by decide
  omega
theorem PartB.take {p : List novationref10_Part} (hp : PartB p) (i : Nat) : PartB (p.take i) := ⟨by rw [List.length_take]; have := hp.1; omega, fun x hx => hp.2 x (List.mem_of_mem_take hx)⟩
theorem i64_big {x : Int} (h : I64 x) : x.natAbs < 2 ^ 64 := by unfold I64 at h; omega
theorem behind_eq {x : Int} (hx : I64 x) (k n : Int) {p : List novationref10_Part} (hp : PartB p) : novationref10_behind.f x k n p = some (fitV (x + psum p k n), fit (x + psum p k n)) := by
  unfold novationref10_behind.f
  have h := loop_inv (fun q (s : Int × Bool × Nat) => novationref10_behind.l0 k n p q s.1 s.2.1 (s.2.2 : Int)) (fun s => s.2.2 ≤ p.length ∧ s.1 = psum (p.take s.2.2) k n ∧ (s.2.1 = false → s.1 = 0)) (fun s => p.length - s.2.2) (fun r => r.1 = psum p k n ∧ (r.2.1 = false → r.1 = 0))
    (fun q s hs => by
      obtain ⟨t, b, i⟩ := s
      obtain ⟨h1, h2, h3⟩ := hs
      simp only at h1 h2 h3
      by_cases hi : i < p.length
      · left
        have e1 := wsucc (i := i) (by have := hp.1; omega)
        have ht := psum_le (hp.take i) k n
        rw [← h2] at ht
        have hX := hp.2 _ (rd_mem hi)
        have hB1 : BigOk t := bigOk_of (Nat.lt_trans ht (by decide))
        have hB2 : BigOk (rd p (i : Int)).X := bigOk_of (Nat.lt_trans hX (by decide))
        have hps : psum (p.take (i + 1)) k n = if (rd p (i : Int)).Kind = k ∧ (rd p (i : Int)).N = n then t + (rd p (i : Int)).X else t := by
          rw [h2]
          unfold psum
          rw [take_succ_rd p hi, List.filter_append, List.map_append, List.sum_append]
          by_cases hc : (rd p (i : Int)).Kind = k ∧ (rd p (i : Int)).N = n
          · rw [if_pos hc, List.filter_cons_of_pos (by simpa using hc)]; simp
          · rw [if_neg hc, List.filter_cons_of_neg (by simpa using hc)]; simp
        simp only [novationref10_behind.l0, e1]
        rw [if_pos (by omega), if_pos (by omega)]
        by_cases c1 : (rd p (i : Int)).Kind = k
        · by_cases c2 : (rd p (i : Int)).N = n
          · rw [if_pos c1, if_pos c2]
            unfold novationref1_Plus.f
            rw [if_pos ⟨hB1, hB2⟩, Option.bind_some]
            exact ⟨(t + (rd p (i : Int)).X, true, i + 1), rfl, ⟨by simp only; omega, by rw [hps, if_pos ⟨c1, c2⟩], by simp⟩, by simp only; omega⟩
          · rw [if_pos c1, if_neg c2]
            exact ⟨(t, b, i + 1), rfl, ⟨by simp only; omega, by rw [hps, if_neg (fun h => c2 h.2)], h3⟩, by simp only; omega⟩
        · rw [if_neg c1]
          exact ⟨(t, b, i + 1), rfl, ⟨by simp only; omega, by rw [hps, if_neg (fun h => c1 h.1)], h3⟩, by simp only; omega⟩
      · right
        have e : i = p.length := by omega
        subst e
        refine ⟨(t, b, (p.length : Int)), ?_, ?_, h3⟩
        · show novationref10_behind.l0 k n p (q + 1) t b (p.length : Int) = _
          simp only [novationref10_behind.l0]; rw [if_neg (by omega)]
        · rw [h2, List.take_length])
    (s0 := (0, false, 0)) ⟨Nat.zero_le _, by simp [psum], by simp⟩ (by have := hp.1; simp only; omega)
  obtain ⟨r, h1, h2, h3⟩ := h
  rw [show ((0 : Nat) : Int) = 0 from rfl] at h1
  rw [h1, Option.bind_some]
  have hps := psum_le hp k n
  have hx' := i64_big hx
  cases hb : r.2.1 with
  | false =>
    rw [if_pos (by simp)]
    have e0 := h3 hb
    rw [h2] at e0
    rw [e0, Int.add_zero]
    rw [(fit_of hx).1, (fit_of hx).2]
  | true =>
    rw [if_neg (by simp), h2]
    unfold novationref1_Whole.f novationref1_Plus.f novationref1_Int.f
    rw [if_pos hx, Option.bind_some, if_pos ⟨bigOk_of (Nat.lt_trans hps (by decide)), bigOk_of (Nat.lt_trans hx' (by decide))⟩, Option.bind_some, if_pos (bigOk_of (Nat.lt_of_lt_of_le (m := 2 ^ 232 + 2 ^ 64) (by omega) (by decide))), Option.bind_some, Int.add_comm]
end Go.Ax

/- Rows with parts laid: all of it. -/
set_option linter.unusedVariables false
set_option linter.unusedSimpArgs false
set_option maxRecDepth 100000
set_option maxHeartbeats 4000000
namespace Go.Ax
open Go
/-- A row's sum behind parts. -/
def newv (l : List api_Row) (p : List novationref10_Part) (c : Nat) : Int := getOf l ((c / 25 : Nat) : Int) ((c % 25 : Nat) : Int) + psum p ((c / 25 : Nat) : Int) ((c % 25 : Nat) : Int)
def rowItem (f : Nat → Int) (c : Nat) : List api_Row := if f c = 0 then [] else [⟨((c / 25 : Nat) : Int), ((c % 25 : Nat) : Int), f c⟩]
def fitsC (f : Nat → Int) (c : Nat) : Bool := fit (f c)
def codes : List Nat := List.range' 25 175
/-- What rows with parts laid come to. -/
def laidOf (f : Nat → Int) : List api_Row × Bool := if codes.all (fitsC f) = true then (codes.flatMap (rowItem f), true) else ([], false)
theorem rowItem_len (f : Nat → Int) (c : Nat) : (rowItem f c).length ≤ 1 := by unfold rowItem; split <;> simp
theorem ckR_def (x : api_Row) : ckR x = (x.Kind * 25 + x.N).toNat := rfl
theorem up_has {l : List api_Row} (hs : SortK ckR l) (c : Nat) : (¬ HasK ckR l c ∧ (upTo ckR l (c + 1)).length = (upTo ckR l c).length) ∨ (HasK ckR l c ∧ (upTo ckR l (c + 1)).length = (upTo ckR l c).length + 1) := by
  have h1 := from_len (ck := ckR) l c
  have h2 := from_len (ck := ckR) l (c + 1)
  rcases from_step hs c with ⟨h3, h4⟩ | ⟨x, h3, h4⟩
  · left; rw [h4] at h2; exact ⟨h3, by omega⟩
  · right
    rw [h4] at h1
    simp only [List.length_cons] at h1
    refine ⟨⟨x, ?_, h3⟩, by omega⟩
    rw [← up_from (ck := ckR) l c, h4]
    simp
theorem laid_l1 {l : List api_Row} (hS : RowsS l) (hI : RowI l) (hl : l.length < 2 ^ 32) {p : List novationref10_Part} (hp : PartB p) (k : Nat) (hk : k ≤ 7) : ∀ (d n q : Nat) (out : List api_Row), n + d = 25 → d < q → out.length + d ≤ 100000 →
    novationref10_Laid.l1 l p k q out (upTo ckR l (k * 25 + n)).length n =
      some (if (List.range' (k * 25 + n) d).all (fitsC (newv l p)) = true then .out (out ++ (List.range' (k * 25 + n) d).flatMap (rowItem (newv l p)), ((upTo ckR l (k * 25 + 25)).length : Int), 25) else .ret ([], false)) := by
  intro d
  induction d with
  | zero =>
    intro n q out hn hq ho
    obtain ⟨q, rfl⟩ : ∃ m, q = m + 1 := ⟨q - 1, by omega⟩
    have : n = 25 := by omega
    subst this
    simp only [novationref10_Laid.l1]
    rw [if_neg (by omega)]
    simp
  | succ d ih =>
    intro n q out hn hq ho
    obtain ⟨q, rfl⟩ : ∃ m, q = m + 1 := ⟨q - 1, by omega⟩
    have e1 := wsucc (i := n) (by omega)
    have hup := up_len (ck := ckR) l (k * 25 + n)
    have e2 := wsucc (i := (upTo ckR l (k * 25 + n)).length) (by omega)
    have hc1 : (k * 25 + n) / 25 = k := by omega
    have hc2 : (k * 25 + n) % 25 = n := by omega
    have hg : getOf l (k : Int) (n : Int) = valK ckR (·.Sum) l (k * 25 + n) := by
      rw [getOf_val hS.key (by omega) (by omega) (by omega)]
      congr 1
    have hnew : newv l p (k * 25 + n) = valK ckR (·.Sum) l (k * 25 + n) + psum p k n := by
      unfold newv; rw [hc1, hc2, hg]
    have hi : rowItem (newv l p) (k * 25 + n) = if newv l p (k * 25 + n) = 0 then [] else [⟨(k : Int), (n : Int), newv l p (k * 25 + n)⟩] := by
      unfold rowItem; rw [hc1, hc2]
    -- what follows
    have fin : ∀ ptr : Nat, ptr = (upTo ckR l (k * 25 + (n + 1))).length →
        (if ¬(fit (newv l p (k * 25 + n)) = true) then (some (.ret (([] : List api_Row), false))) else (if ¬(fitV (newv l p (k * 25 + n)) = 0) then (if out.length + 1 ≤ 100000000000 then (novationref10_Laid.l1 l p k q (out ++ ([(⟨(k : Int), (n : Int), fitV (newv l p (k * 25 + n))⟩ : api_Row)])) (ptr : Int) ((n + 1 : Nat) : Int)) else none) else (novationref10_Laid.l1 l p k q out (ptr : Int) ((n + 1 : Nat) : Int)))) =
        some (if (List.range' (k * 25 + n) (d + 1)).all (fitsC (newv l p)) = true then .out (out ++ (List.range' (k * 25 + n) (d + 1)).flatMap (rowItem (newv l p)), ((upTo ckR l (k * 25 + 25)).length : Int), 25) else .ret ([], false)) := by
      intro ptr hptr
      rw [List.range'_succ, Nat.add_assoc, List.all_cons, List.flatMap_cons]
      cases hf : fit (newv l p (k * 25 + n)) with
      | false => rw [if_pos (by simp)]; simp [fitsC, hf]
      | true =>
        have hv : fitV (newv l p (k * 25 + n)) = newv l p (k * 25 + n) := by unfold fitV; rw [if_pos hf]
        have hfc : fitsC (newv l p) (k * 25 + n) = true := hf
        rw [if_neg (by simp), hv, hptr, hi, hfc, Bool.true_and]
        by_cases hz : newv l p (k * 25 + n) = 0
        · rw [if_neg (by simp [hz]), if_pos hz, ih (n + 1) q out (by omega) (by omega) (by omega), List.nil_append]
        · rw [if_pos hz, if_pos (by omega), if_neg hz, ih (n + 1) q _ (by omega) (by omega) (by rw [List.length_append]; simp; omega), List.append_assoc]
    have hz : I64 0 := by decide
    rcases up_has hS.sort (k * 25 + n) with ⟨h1, h2⟩ | ⟨h1, h2⟩
    · have h0 : valK ckR (·.Sum) l (k * 25 + n) = 0 := valK_none h1
      have hb := behind_eq hz (k : Int) (n : Int) hp
      have e0 : 0 + psum p k n = newv l p (k * 25 + n) := by rw [hnew, h0]
      rw [e0] at hb
      have hno : (upTo ckR l (k * 25 + n)).length < l.length → ¬((rd l (((upTo ckR l (k * 25 + n)).length : Nat) : Int)).Kind = (k : Int) ∧ (rd l (((upTo ckR l (k * 25 + n)).length : Nat) : Int)).N = (n : Int)) := by
        rintro hlt ⟨a1, a2⟩
        refine h1 ((at_has hS.sort).2 ⟨hlt, ?_⟩)
        rw [ckR_def, a1, a2]
        omega
      simp only [novationref10_Laid.l1, e1, hb, Option.bind_some]
      rw [if_pos (by omega)]
      by_cases hlt : ((upTo ckR l (k * 25 + n)).length : Int) < (l.length : Int)
      · rw [if_pos hlt, if_pos (by omega)]
        have hno' := hno (by omega)
        by_cases c1 : (rd l (((upTo ckR l (k * 25 + n)).length : Nat) : Int)).Kind = (k : Int)
        · rw [if_pos c1, if_neg (fun c2 => hno' ⟨c1, c2⟩)]
          exact fin _ h2.symm
        · rw [if_neg c1]
          exact fin _ h2.symm
      · rw [if_neg hlt]
        exact fin _ h2.symm
    · obtain ⟨hlt, hck⟩ := (at_has hS.sort).1 h1
      have hmem := rd_mem hlt
      have hkey := keyOk_range (hS.key _ hmem)
      have hv := valK_mem (v := fun x : api_Row => x.Sum) hS.sort hmem
      rw [hck] at hv
      have hk1 : (rd l (((upTo ckR l (k * 25 + n)).length : Nat) : Int)).Kind = (k : Int) ∧ (rd l (((upTo ckR l (k * 25 + n)).length : Nat) : Int)).N = (n : Int) := by
        rw [ckR_def] at hck; omega
      have hb := behind_eq (hI _ hlt) (k : Int) (n : Int) hp
      have e0 : (rd l (((upTo ckR l (k * 25 + n)).length : Nat) : Int)).Sum + psum p k n = newv l p (k * 25 + n) := by rw [hnew, hv]
      rw [e0] at hb
      simp only [novationref10_Laid.l1, e1, e2]
      rw [if_pos (by omega), if_pos (by omega), if_pos (by omega), if_pos hk1.1, if_pos hk1.2, hb, Option.bind_some]
      exact fin _ h2.symm
theorem laid_l0 {l : List api_Row} (hS : RowsS l) (hI : RowI l) (hl : l.length < 2 ^ 32) {p : List novationref10_Part} (hp : PartB p) : ∀ (d k q : Nat) (out : List api_Row), k + d = 8 → d < q → out.length + d * 25 ≤ 100000 →
    ∃ e : List api_Row × Int × Int, novationref10_Laid.l0 l p q out (upTo ckR l (k * 25)).length k =
      some (if (List.range' (k * 25) (d * 25)).all (fitsC (newv l p)) = true then .out (out ++ (List.range' (k * 25) (d * 25)).flatMap (rowItem (newv l p)), e.2) else .ret ([], false)) := by
  intro d
  induction d with
  | zero =>
    intro k q out hk hq ho
    obtain ⟨q, rfl⟩ : ∃ m, q = m + 1 := ⟨q - 1, by omega⟩
    refine ⟨([], ((upTo ckR l (k * 25)).length : Int), k), ?_⟩
    simp only [novationref10_Laid.l0]
    rw [if_neg (by omega)]
    simp
  | succ d ih =>
    intro k q out hk hq ho
    obtain ⟨q, rfl⟩ : ∃ m, q = m + 1 := ⟨q - 1, by omega⟩
    have e1 := wsucc (i := k) (by omega)
    have h1 := laid_l1 hS hI hl hp k (by omega) 25 0 FUEL out (by omega) (by unfold FUEL; omega) (by omega)
    have hlen : ((List.range' (k * 25) 25).flatMap (rowItem (newv l p))).length ≤ 25 := by
      have : ∀ (d c : Nat), ((List.range' c d).flatMap (rowItem (newv l p))).length ≤ d := by
        intro d
        induction d with
        | zero => intro c; simp
        | succ d ih => intro c; rw [List.range'_succ, List.flatMap_cons, List.length_append]; have := ih (c + 1); have := rowItem_len (newv l p) c; omega
      exact this 25 _
    obtain ⟨e, h2⟩ := ih (k + 1) q (out ++ (List.range' (k * 25) 25).flatMap (rowItem (newv l p))) (by omega) (by omega) (by rw [List.length_append]; omega)
    refine ⟨e, ?_⟩
    have er : List.range' (k * 25) ((d + 1) * 25) = List.range' (k * 25) 25 ++ List.range' ((k + 1) * 25) (d * 25) := by
      rw [show (d + 1) * 25 = 25 + d * 25 by omega, show (k + 1) * 25 = k * 25 + 25 by omega, List.range'_append_1]
    simp only [novationref10_Laid.l0, e1]
    rw [if_pos (by omega)]
    rw [Nat.add_zero] at h1
    rw [show ((0 : Nat) : Int) = 0 from rfl] at h1
    rw [h1, Option.bind_some, flow_ifL, er, List.all_append, List.flatMap_append]
    cases ha : (List.range' (k * 25) 25).all (fitsC (newv l p)) with
    | false => simp
    | true =>
      rw [if_pos rfl, show k * 25 + 25 = (k + 1) * 25 by omega, h2, Bool.true_and, List.append_assoc]
theorem rLaid_eq {l : List api_Row} (hS : RowsS l) (hI : RowI l) (hl : l.length < 2 ^ 32) {p : List novationref10_Part} (hp : PartB p) : novationref10_Laid.f l p = some (laidOf (newv l p)) := by
  unfold novationref10_Laid.f laidOf codes
  have h0 : (upTo ckR l (1 * 25)).length = 0 := by
    have : upTo ckR l 25 = [] := by
      unfold upTo
      cases l with
      | nil => rfl
      | cons x r =>
        have := (ckR_eq (hS.key x (by simp))).2.1
        rw [List.takeWhile_cons, if_neg (by simp; omega)]
    rw [this]; rfl
  obtain ⟨e, h1⟩ := laid_l0 hS hI hl hp 7 1 FUEL [] (by omega) (by unfold FUEL; omega) (by simp)
  rw [h0] at h1
  have h1' : novationref10_Laid.l0 l p FUEL [] 0 1 = _ := h1
  rw [h1', Option.bind_some, flow_if, List.nil_append]
  split <;> rfl
end Go.Ax

/- A posting, by the program and by the reference. -/
set_option linter.unusedVariables false
set_option linter.unusedSimpArgs false
set_option maxRecDepth 100000
set_option maxHeartbeats 4000000
namespace Go.Ax
open Go
def EntryI (e : List api_Entry) : Prop := ∀ x ∈ e, Wid x.X
def partsOf (e : List api_Entry) : List novationref10_Part := e.map fun x => ⟨x.Kind, x.N, x.X⟩
theorem wid_lt {z : Int} (h : Wid z) : z.natAbs < 2 ^ 200 := by
  unfold Wid at h
  have : (170141183460469231731687303715884105728 : Nat) < 2 ^ 200 := by decide
  omega
theorem partsOf_B {e : List api_Entry} (h : EntryI e) (hl : e.length < 2 ^ 32) : PartB (partsOf e) := by
  refine ⟨by unfold partsOf; rw [List.length_map]; exact hl, fun x hx => ?_⟩
  obtain ⟨y, hy, rfl⟩ := List.mem_map.1 hx
  exact wid_lt (h y hy)
theorem rParts_eq {e : List api_Entry} (h : EntryI e) (hl : e.length < 2 ^ 32) : novationref10_Parts.f e = some (partsOf e) := by
  unfold novationref10_Parts.f
  have h1 := loop_gather (fun k s i => novationref10_Parts.l0 e k s i) e (fun x => [(⟨x.Kind, x.N, x.X⟩ : novationref10_Part)]) (fun k i s hi es => ?_) (fun k s => ?_) (by omega)
  · rw [h1, Option.bind_some]
    simp only
    rw [flatMap_one (fun x : api_Entry => (⟨x.Kind, x.N, x.X⟩ : novationref10_Part))]
    rfl
  · have e1 := wsucc (i := i) (by omega)
    have hlen : s.length ≤ i := by rw [es, flatMap_one (fun x : api_Entry => (⟨x.Kind, x.N, x.X⟩ : novationref10_Part)), List.length_map, List.length_take]; omega
    simp only [novationref10_Parts.l0, e1]
    rw [if_pos (by omega), if_pos (by omega)]
    unfold novationref1_Wide.f
    rw [if_pos (h _ (rd_mem hi)), Option.bind_some, if_pos (by omega)]
  · simp only [novationref10_Parts.l0]; rw [if_neg (by omega)]
def keysOk (e : List api_Entry) : Prop := ∀ x ∈ e, keyOk x.Kind x.N
instance (e : List api_Entry) : Decidable (keysOk e) := by unfold keysOk; infer_instance
def entSum (e : List api_Entry) : Int := (e.map (·.X)).sum
theorem entSum_le {e : List api_Entry} (h : EntryI e) (hl : e.length < 2 ^ 32) : (entSum e).natAbs < 2 ^ 232 := by
  unfold entSum
  have h1 := sum_natAbs (e.map (·.X)) (2 ^ 200) (fun x hx => by obtain ⟨y, hy, rfl⟩ := List.mem_map.1 hx; exact wid_lt (h y hy))
  rw [List.length_map] at h1
  have h4 : e.length * 2 ^ 200 ≤ (2 ^ 32 - 1) * 2 ^ 200 := Nat.mul_le_mul_right _ (by omega)
  have h5 : (2 ^ 32 - 1) * 2 ^ 200 < 2 ^ 232 := by decide
  omega
theorem cmpZ (z : Int) : cmpI z 0 = 0 ↔ z = 0 := by unfold cmpI; repeat' split; all_goals omega
/-- What a posting comes to. -/
def postOf (l : List api_Row) (e : List api_Entry) : List api_Row × Int :=
  if ¬(rowsOk l = true) ∨ e.length > 400 ∨ ¬ keysOk e ∨ entSum e ≠ 0 then ([], 1) else if (laidOf (newv l (partsOf e))).2 = true then ((laidOf (newv l (partsOf e))).1, 0) else ([], 2)
theorem rd_partsOf (e : List api_Entry) {i : Nat} (hi : i < e.length) : rd (partsOf e) (i : Int) = ⟨(rd e (i : Int)).Kind, (rd e (i : Int)).N, (rd e (i : Int)).X⟩ := by
  rw [rd_get (partsOf e) (by unfold partsOf; rw [List.length_map]; exact hi), rd_get e hi]
  unfold partsOf
  rw [List.getElem_map]
theorem rPost_eq {l : List api_Row} (hI : RowI l) (hl : l.length < 2 ^ 32) {e : List api_Entry} (he : EntryI e) (hel : e.length < 2 ^ 32) : novationref10_Post.f l e = some (postOf l e) := by
  unfold novationref10_Post.f postOf
  rw [rRows_eq l (by omega), Option.bind_some]
  by_cases hr : rowsOk l = true
  · rw [if_neg (by simp [hr])]
    by_cases h400 : (e.length : Int) > 400
    · rw [if_pos h400, if_pos (.inr (.inl (by omega)))]
    · rw [if_neg h400, rParts_eq he hel, Option.bind_some]
      have hpl : (partsOf e).length = e.length := by unfold partsOf; rw [List.length_map]
      have h := loop_inv (fun q (s : Int × Nat) => novationref10_Post.l0 (partsOf e) q s.1 (s.2 : Int)) (fun s => s.2 ≤ e.length ∧ s.1 = entSum (e.take s.2) ∧ keysOk (e.take s.2)) (fun s => e.length - s.2) (fun r => r = if keysOk e then .out (entSum e, (e.length : Int)) else .ret ([], 1))
        (fun q s hs => by
          obtain ⟨t, i⟩ := s
          obtain ⟨h1, h2, h3⟩ := hs
          simp only at h1 h2 h3
          by_cases hi : i < e.length
          · have e1 := wsucc (i := i) (by omega)
            have ht : t.natAbs < 2 ^ 232 := by rw [h2]; exact entSum_le (fun x hx => he x (List.mem_of_mem_take hx)) (by rw [List.length_take]; omega)
            have hX := wid_lt (he _ (rd_mem hi))
            simp only [novationref10_Post.l0, e1, rd_partsOf e hi, rKey_eq, Option.bind_some, decide_eq_true_eq, hpl]
            rw [if_pos (by omega), if_pos (by omega)]
            by_cases hk : keyOk (rd e (i : Int)).Kind (rd e (i : Int)).N
            · left
              rw [if_neg (by simp [hk])]
              unfold novationref1_Plus.f
              rw [if_pos ⟨bigOk_of (Nat.lt_trans ht (by decide)), bigOk_of (Nat.lt_trans hX (by decide))⟩, Option.bind_some]
              refine ⟨(t + (rd e (i : Int)).X, i + 1), rfl, ⟨by simp only; omega, ?_, ?_⟩, by simp only; omega⟩
              · simp only
                rw [h2]; unfold entSum
                rw [take_succ_rd e hi]; simp
              · simp only
                rw [take_succ_rd e hi]
                intro x hx
                rcases List.mem_append.1 hx with hx | hx
                · exact h3 x hx
                · rw [List.mem_singleton.1 hx]; exact hk
            · right
              rw [if_pos (by simp [hk])]
              refine ⟨_, rfl, ?_⟩
              rw [if_neg (fun h => hk (h _ (rd_mem hi)))]
          · right
            have : i = e.length := by omega
            subst this
            refine ⟨.out (t, (e.length : Int)), ?_, ?_⟩
            · show novationref10_Post.l0 (partsOf e) (q + 1) t (e.length : Int) = _
              simp only [novationref10_Post.l0]; rw [if_neg (by rw [hpl]; omega)]
            · rw [List.take_length] at h2 h3
              rw [if_pos h3, h2])
        (s0 := (0, 0)) ⟨Nat.zero_le _, rfl, by intro x hx; simp at hx⟩ (by simp only; omega)
      obtain ⟨r, h1, h2⟩ := h
      rw [show ((0 : Nat) : Int) = 0 from rfl] at h1
      rw [h1, Option.bind_some, h2, flow_if]
      by_cases hk : keysOk e
      · rw [if_pos hk]
        have hs := entSum_le he hel
        unfold novationref1_Sign.f
        rw [if_pos (bigOk_of (Nat.lt_trans hs (by decide))), Option.bind_some]
        by_cases hz : entSum e = 0
        · rw [if_neg (by rw [cmpZ]; exact fun h => h hz), rLaid_eq (rowsOk_S.1 hr) hI hl (partsOf_B he hel), Option.bind_some, if_neg (c := _ ∨ _) (by
            rintro (h | h | h | h)
            · exact h hr
            · omega
            · exact h hk
            · exact h hz)]
          by_cases hf : (laidOf (newv l (partsOf e))).2 = true
          · rw [if_neg (by simp [hf]), if_pos hf]
          · rw [if_pos hf, if_neg hf]
        · rw [if_pos (by rw [cmpZ]; exact hz), if_pos (.inr (.inr (.inr hz)))]
      · rw [if_neg hk, if_pos (.inr (.inr (.inl hk)))]
  · rw [if_pos hr, if_pos (.inl hr)]
end Go.Ax

/- Shifts posted, by the program. -/
set_option linter.unusedVariables false
set_option linter.unusedSimpArgs false
set_option maxRecDepth 100000
set_option maxHeartbeats 4000000
namespace Go.Ax
open Go
/-- An entry's place. -/
def ckS (x : api_Shift) : Nat := (x.Acc * 6 + x.Inst).toNat
def HasS (e : List api_Shift) (c : Nat) : Prop := ∃ x ∈ e, ckS x = c
def posS (x : api_Shift) : api_Pos := ⟨x.Acc, x.Inst, 0⟩
theorem ordS_lt {x : api_Shift} {p : api_Pos} (hx : posK x.Acc x.Inst) (hp : posK p.Acc p.Inst) : (ordI (posS x) p > 0 ↔ ckP p < ckS x) ∧ (ordI (posS x) p = 0 ↔ ckP p = ckS x) := by
  have h1 := hx
  have h2 := hp
  unfold posK at h1 h2
  have e1 : IntKind.i64.wrap (x.Acc - p.Acc) = x.Acc - p.Acc := i64_wrap _ (by omega) (by omega)
  have e2 : IntKind.i64.wrap (x.Inst - p.Inst) = x.Inst - p.Inst := i64_wrap _ (by omega) (by omega)
  unfold ordI posS ckP ckS
  simp only
  rw [e1, e2]
  split <;> omega
theorem order_pos (x : api_Shift) (p : api_Pos) : stock_order.f x.Acc x.Inst p = some (ordI (posS x) p) := stock_order_eq (posS x) p
/-- The place for an entry. -/
theorem spost_l2 {e : List api_Shift} {j : Nat} (hk : posK (rd e (j : Int)).Acc (rd e (j : Int)).Inst) {rows : List api_Pos} (hs : SortK ckP rows) (hkr : ∀ x ∈ rows, posK x.Acc x.Inst) (hl : rows.length < 2 ^ 32) :
    stock_Post.l2 e rows (j : Int) FUEL 0 = some (((upTo ckP rows (ckS (rd e (j : Int)))).length : Nat) : Int) := by
  have hup := up_len (ck := ckP) rows (ckS (rd e (j : Int)))
  have h := loop_inv (fun q (i : Nat) => stock_Post.l2 e rows (j : Int) q (i : Int)) (fun i => i ≤ (upTo ckP rows (ckS (rd e (j : Int)))).length) (fun i => rows.length - i) (fun r => r = (((upTo ckP rows (ckS (rd e (j : Int)))).length : Nat) : Int))
    (fun q i hi => by
      have e1 := wsucc (i := i) (by omega)
      simp only [stock_Post.l2, e1]
      by_cases hlt : i < rows.length
      · rw [if_pos (by omega), if_pos (by omega), order_pos, Option.bind_some]
        have ho := ordS_lt hk (hkr _ (rd_mem hlt))
        by_cases hc : i < (upTo ckP rows (ckS (rd e (j : Int)))).length
        · left
          rw [if_pos (ho.1.2 (rd_up hc))]
          exact ⟨i + 1, rfl, hc, by omega⟩
        · right
          have : i = (upTo ckP rows (ckS (rd e (j : Int)))).length := by omega
          rw [if_neg (fun h => by
            have h2 := at_not hs (c := ckS (rd e (j : Int))) (by rw [← this]; exact hlt)
            rw [← this] at h2
            exact h2 (ho.1.1 h))]
          exact ⟨_, rfl, by rw [this]⟩
      · right
        rw [if_neg (by omega)]
        exact ⟨_, rfl, by omega⟩) (s0 := 0) (Nat.zero_le _) (by omega)
  obtain ⟨r, h1, h2⟩ := h
  rw [show ((0 : Nat) : Int) = 0 from rfl] at h1
  rw [h1, h2]
/-- Rows to which keys have been put. -/
structure PutS (l : List api_Pos) (e : List api_Shift) (i : Nat) (rows : List api_Pos) : Prop where
  sort : SortK ckP rows
  key : ∀ x ∈ rows, posK x.Acc x.Inst
  len : rows.length ≤ l.length + i
  val : ∀ x ∈ rows, x ∈ l ∨ x.Q = 0 ∧ ¬ HasK ckP l (ckP x)
  has : ∀ c, HasK ckP rows c ↔ HasK ckP l c ∨ HasS (e.take i) c
theorem hasS_succ {e : List api_Shift} {i : Nat} (hi : i < e.length) (c : Nat) : HasS (e.take (i + 1)) c ↔ HasS (e.take i) c ∨ ckS (rd e (i : Int)) = c := by
  unfold HasS
  rw [take_succ_rd e hi]
  constructor
  · rintro ⟨x, hx, h⟩
    rcases List.mem_append.1 hx with hx | hx
    · exact .inl ⟨x, hx, h⟩
    · rw [List.mem_singleton.1 hx] at h; exact .inr h
  · rintro (⟨x, hx, h⟩ | h)
    · exact ⟨x, List.mem_append_left _ hx, h⟩
    · exact ⟨_, List.mem_append_right _ (List.mem_singleton.2 rfl), h⟩
theorem ckP_posS (x : api_Shift) : ckP (posS x) = ckS x := rfl
theorem spost_l1 {l : List api_Pos} (hS : StockS l) (hl : l.length < 2 ^ 20) {e : List api_Shift} (hk : shiftsOk e) (hel : e.length < 2 ^ 20) : ∃ rows, stock_Post.l1 e FUEL l 0 = some (rows, (e.length : Int)) ∧ PutS l e e.length rows := by
  have h := loop_inv (fun q (s : List api_Pos × Nat) => stock_Post.l1 e q s.1 (s.2 : Int)) (fun s => s.2 ≤ e.length ∧ PutS l e s.2 s.1) (fun s => e.length - s.2) (fun r => r.2 = (e.length : Int) ∧ PutS l e e.length r.1)
    (fun q s hs => by
      obtain ⟨rows, i⟩ := s
      obtain ⟨h1, hP⟩ := hs
      simp only at h1 hP
      by_cases hi : i < e.length
      · left
        have e1 := wsucc (i := i) (by omega)
        have hkE := (hk _ (rd_mem hi)).1
        have hlen := hP.len
        have hup := up_len (ck := ckP) rows (ckS (rd e (i : Int)))
        simp only [stock_Post.l1, e1]
        rw [if_pos (by omega), if_pos (by omega), spost_l2 hkE hP.sort hP.key (by omega), Option.bind_some]
        have hput : ¬ HasK ckP rows (ckS (rd e (i : Int))) → ∃ s' : List api_Pos × Nat, ((slices_Insert_api_Pos.f rows (((upTo ckP rows (ckS (rd e (i : Int)))).length : Nat) : Int) ([(⟨(rd e (i : Int)).Acc, (rd e (i : Int)).Inst, 0⟩ : api_Pos)])).bind fun y => stock_Post.l1 e q y ((i + 1 : Nat) : Int)) = stock_Post.l1 e q s'.1 (s'.2 : Int) ∧ (s'.2 ≤ e.length ∧ PutS l e s'.2 s'.1) ∧ e.length - s'.2 < e.length - i := by
          intro hn
          unfold slices_Insert_api_Pos.f
          rw [if_pos ⟨by omega, by omega, rfl, by omega⟩, Option.bind_some, Int.toNat_natCast, take_up, drop_up]
          obtain ⟨g1, g2⟩ := hP.sort.insert (m := posS (rd e (i : Int))) (by rw [ckP_posS]; exact hn)
          rw [ckP_posS] at g1 g2
          refine ⟨(upTo ckP rows (ckS (rd e (i : Int))) ++ [posS (rd e (i : Int))] ++ from' ckP rows (ckS (rd e (i : Int))), i + 1), rfl, ⟨by simp only; omega, g1, fun x hx => ?_, ?_, fun x hx => ?_, fun c => ?_⟩, by simp only; omega⟩
          · rcases (g2 x).1 hx with hx | rfl
            · exact hP.key x hx
            · exact hkE
          · have := from_len (ck := ckP) rows (ckS (rd e (i : Int)))
            simp only [List.length_append, List.length_cons, List.length_nil]; omega
          · rcases (g2 x).1 hx with hx | rfl
            · exact hP.val x hx
            · right
              refine ⟨rfl, fun hh => hn ?_⟩
              rw [ckP_posS] at hh
              exact (hP.has _).2 (.inl hh)
          · rw [hasS_succ hi, ← or_assoc, ← hP.has c]
            constructor
            · rintro ⟨x, hx, hc⟩
              rcases (g2 x).1 hx with hx | rfl
              · exact .inl ⟨x, hx, hc⟩
              · exact .inr hc
            · rintro (⟨x, hx, hc⟩ | hc)
              · exact ⟨x, (g2 x).2 (.inl hx), hc⟩
              · exact ⟨_, (g2 _).2 (.inr rfl), hc⟩
        by_cases hend : (((upTo ckP rows (ckS (rd e (i : Int)))).length : Nat) : Int) = (rows.length : Int)
        · rw [if_pos hend]
          exact hput fun hh => by have := ((at_has hP.sort).1 hh).1; omega
        · have hlt : (upTo ckP rows (ckS (rd e (i : Int)))).length < rows.length := by omega
          rw [if_neg hend, if_pos (by omega), order_pos, Option.bind_some]
          have ho := ordS_lt hkE (hP.key _ (rd_mem hlt))
          by_cases hz : ordI (posS (rd e (i : Int))) (rd rows (((upTo ckP rows (ckS (rd e (i : Int)))).length : Nat) : Int)) = 0
          · rw [if_neg (fun h => h hz)]
            have hh : HasK ckP rows (ckS (rd e (i : Int))) := (at_has hP.sort).2 ⟨hlt, ho.2.1 hz⟩
            refine ⟨(rows, i + 1), rfl, ⟨by simp only; omega, hP.sort, hP.key, by have := hP.len; simp only; omega, hP.val, fun c => ?_⟩, by simp only; omega⟩
            rw [hasS_succ hi, ← or_assoc, ← hP.has c]
            exact ⟨.inl, fun h => h.elim id fun h => h ▸ hh⟩
          · rw [if_pos hz]
            exact hput fun hh => hz (ho.2.2 ((at_has hP.sort).1 hh).2)
      · right
        have : i = e.length := by omega
        subst this
        refine ⟨(rows, (e.length : Int)), ?_, rfl, hP⟩
        show stock_Post.l1 e (q + 1) rows (e.length : Int) = _
        simp only [stock_Post.l1]; rw [if_neg (by omega)])
    (s0 := (l, 0)) ⟨Nat.zero_le _, hS.sort, hS.key, by simp, fun x hx => .inl hx, fun c => by simp [HasS]⟩ (by simp only; omega)
  obtain ⟨r, h1, h2, h3⟩ := h
  rw [show ((0 : Nat) : Int) = 0 from rfl] at h1
  obtain ⟨r1, r2⟩ := r
  simp only at h2 h3
  exact ⟨r1, by rw [h1, h2], h3⟩
theorem flatMap_ifS {k n : Int} (e : List api_Shift) : (e.flatMap fun x => if x.Acc = k ∧ x.Inst = n then [x.Q] else []) = (e.filter (fun x => decide (x.Acc = k ∧ x.Inst = n))).map (·.Q) := flatMap_if (fun x : api_Shift => x.Acc = k ∧ x.Inst = n) (·.Q) e
theorem spost_l4 {e : List api_Shift} (he : ShiftI e) (hel : e.length < 2 ^ 20) (s5 : List api_Pos × Int) (j : Nat) (v : Int) :
    stock_Post.l4 e s5 (j : Int) FUEL [v] 0 = some (v :: (e.filter (fun x => decide (x.Acc = (rd s5.1 (j : Int)).Acc ∧ x.Inst = (rd s5.1 (j : Int)).Inst))).map (·.Q), (e.length : Int)) := by
  have h := loop_inv (fun q (s : List Int × Nat) => stock_Post.l4 e s5 (j : Int) q s.1 (s.2 : Int)) (fun s => s.2 ≤ e.length ∧ s.1 = v :: ((e.take s.2).flatMap fun x => if x.Acc = (rd s5.1 (j : Int)).Acc ∧ x.Inst = (rd s5.1 (j : Int)).Inst then [x.Q] else [])) (fun s => e.length - s.2)
    (fun r => r = (v :: (e.flatMap fun x => if x.Acc = (rd s5.1 (j : Int)).Acc ∧ x.Inst = (rd s5.1 (j : Int)).Inst then [x.Q] else []), (e.length : Int)))
    (fun q s hs => by
      obtain ⟨t, i⟩ := s
      obtain ⟨h1, h2⟩ := hs
      simp only at h1 h2
      by_cases hi : i < e.length
      · left
        have e1 := wsucc (i := i) (by omega)
        have hlen : t.length ≤ i + 1 := by
          rw [h2, List.length_cons]
          have := flatMap_if_len (fun x : api_Shift => x.Acc = (rd s5.1 (j : Int)).Acc ∧ x.Inst = (rd s5.1 (j : Int)).Inst) (·.Q) (e.take i)
          rw [List.length_take] at this
          omega
        simp only [stock_Post.l4, e1]
        rw [if_pos (by omega), if_pos (by omega)]
        by_cases c1 : (rd e (i : Int)).Acc = (rd s5.1 (j : Int)).Acc
        · by_cases c2 : (rd e (i : Int)).Inst = (rd s5.1 (j : Int)).Inst
          · unfold wide_Of.f
            rw [if_pos c1, if_pos c2, if_pos (he _ (rd_mem hi)), Option.bind_some, if_pos (by omega)]
            refine ⟨(t ++ [(rd e (i : Int)).Q], i + 1), rfl, ⟨by simp only; omega, ?_⟩, by simp only; omega⟩
            simp only
            rw [take_succ_rd e hi, List.flatMap_append, h2]
            simp [c1, c2]
          · rw [if_pos c1, if_neg c2]
            refine ⟨(t, i + 1), rfl, ⟨by simp only; omega, ?_⟩, by simp only; omega⟩
            simp only
            rw [take_succ_rd e hi, List.flatMap_append, h2]
            simp [c2]
        · rw [if_neg c1]
          refine ⟨(t, i + 1), rfl, ⟨by simp only; omega, ?_⟩, by simp only; omega⟩
          simp only
          rw [take_succ_rd e hi, List.flatMap_append, h2]
          simp [c1]
      · right
        have : i = e.length := by omega
        subst this
        refine ⟨_, ?_, rfl⟩
        show stock_Post.l4 e s5 (j : Int) (q + 1) t (e.length : Int) = _
        simp only [stock_Post.l4]
        rw [if_neg (by omega), h2, List.take_length])
    (s0 := ([v], 0)) ⟨Nat.zero_le _, by simp⟩ (by simp only; omega)
  obtain ⟨r, h1, h2⟩ := h
  rw [show ((0 : Nat) : Int) = 0 from rfl] at h1
  rw [h1, h2, flatMap_ifS]
end Go.Ax

/- A posting, by the program. -/
set_option linter.unusedVariables false
set_option linter.unusedSimpArgs false
set_option maxRecDepth 100000
set_option maxHeartbeats 4000000
namespace Go.Ax
open Go
/-- An entry's place. -/
def ckE (x : api_Entry) : Nat := (x.Kind * 25 + x.N).toNat
def HasE (e : List api_Entry) (c : Nat) : Prop := ∃ x ∈ e, ckE x = c
def rowE (x : api_Entry) : api_Row := ⟨x.Kind, x.N, 0⟩
theorem ordE_lt {x : api_Entry} {p : api_Row} (hx : keyOk x.Kind x.N) (hp : keyOk p.Kind p.N) : (ordR (rowE x) p > 0 ↔ ckR p < ckE x) ∧ (ordR (rowE x) p = 0 ↔ ckR p = ckE x) := by
  have h1 := keyOk_range hx
  have h2 := keyOk_range hp
  have e1 : IntKind.i64.wrap (x.Kind - p.Kind) = x.Kind - p.Kind := i64_wrap _ (by omega) (by omega)
  have e2 : IntKind.i64.wrap (x.N - p.N) = x.N - p.N := i64_wrap _ (by omega) (by omega)
  unfold ordR rowE ckR ckE
  simp only
  rw [e1, e2]
  split <;> omega
theorem order_row (x : api_Entry) (p : api_Row) : ledger_order.f x.Kind x.N p = some (ordR (rowE x) p) := ledger_order_eq (rowE x) p
/-- The place for an entry. -/
theorem post_l2 {e : List api_Entry} {j : Nat} (hk : keyOk (rd e (j : Int)).Kind (rd e (j : Int)).N) {rows : List api_Row} (hs : SortK ckR rows) (hkr : ∀ x ∈ rows, keyOk x.Kind x.N) (hl : rows.length < 2 ^ 32) :
    ledger_Post.l2 e rows (j : Int) FUEL 0 = some (((upTo ckR rows (ckE (rd e (j : Int)))).length : Nat) : Int) := by
  have hup := up_len (ck := ckR) rows (ckE (rd e (j : Int)))
  have h := loop_inv (fun q (i : Nat) => ledger_Post.l2 e rows (j : Int) q (i : Int)) (fun i => i ≤ (upTo ckR rows (ckE (rd e (j : Int)))).length) (fun i => rows.length - i) (fun r => r = (((upTo ckR rows (ckE (rd e (j : Int)))).length : Nat) : Int))
    (fun q i hi => by
      have e1 := wsucc (i := i) (by omega)
      simp only [ledger_Post.l2, e1]
      by_cases hlt : i < rows.length
      · rw [if_pos (by omega), if_pos (by omega), order_row, Option.bind_some]
        have ho := ordE_lt hk (hkr _ (rd_mem hlt))
        by_cases hc : i < (upTo ckR rows (ckE (rd e (j : Int)))).length
        · left
          rw [if_pos (ho.1.2 (rd_up hc))]
          exact ⟨i + 1, rfl, hc, by omega⟩
        · right
          have : i = (upTo ckR rows (ckE (rd e (j : Int)))).length := by omega
          rw [if_neg (fun h => by
            have h2 := at_not hs (c := ckE (rd e (j : Int))) (by rw [← this]; exact hlt)
            rw [← this] at h2
            exact h2 (ho.1.1 h))]
          exact ⟨_, rfl, by rw [this]⟩
      · right
        rw [if_neg (by omega)]
        exact ⟨_, rfl, by omega⟩) (s0 := 0) (Nat.zero_le _) (by omega)
  obtain ⟨r, h1, h2⟩ := h
  rw [show ((0 : Nat) : Int) = 0 from rfl] at h1
  rw [h1, h2]
/-- Rows to which keys have been put. -/
structure PutIn (l : List api_Row) (e : List api_Entry) (i : Nat) (rows : List api_Row) : Prop where
  sort : SortK ckR rows
  key : ∀ x ∈ rows, keyOk x.Kind x.N
  len : rows.length ≤ l.length + i
  val : ∀ x ∈ rows, x ∈ l ∨ x.Sum = 0 ∧ ¬ HasK ckR l (ckR x)
  has : ∀ c, HasK ckR rows c ↔ HasK ckR l c ∨ HasE (e.take i) c
theorem hasE_succ {e : List api_Entry} {i : Nat} (hi : i < e.length) (c : Nat) : HasE (e.take (i + 1)) c ↔ HasE (e.take i) c ∨ ckE (rd e (i : Int)) = c := by
  unfold HasE
  rw [take_succ_rd e hi]
  constructor
  · rintro ⟨x, hx, h⟩
    rcases List.mem_append.1 hx with hx | hx
    · exact .inl ⟨x, hx, h⟩
    · rw [List.mem_singleton.1 hx] at h; exact .inr h
  · rintro (⟨x, hx, h⟩ | h)
    · exact ⟨x, List.mem_append_left _ hx, h⟩
    · exact ⟨_, List.mem_append_right _ (List.mem_singleton.2 rfl), h⟩
theorem ckR_rowE (x : api_Entry) : ckR (rowE x) = ckE x := rfl
theorem post_l1 {l : List api_Row} (hS : RowsS l) (hl : l.length < 2 ^ 20) {e : List api_Entry} (hk : keysOk e) (hel : e.length < 2 ^ 20) : ∃ rows, ledger_Post.l1 e FUEL l 0 = some (rows, (e.length : Int)) ∧ PutIn l e e.length rows := by
  have h := loop_inv (fun q (s : List api_Row × Nat) => ledger_Post.l1 e q s.1 (s.2 : Int)) (fun s => s.2 ≤ e.length ∧ PutIn l e s.2 s.1) (fun s => e.length - s.2) (fun r => r.2 = (e.length : Int) ∧ PutIn l e e.length r.1)
    (fun q s hs => by
      obtain ⟨rows, i⟩ := s
      obtain ⟨h1, hP⟩ := hs
      simp only at h1 hP
      by_cases hi : i < e.length
      · left
        have e1 := wsucc (i := i) (by omega)
        have hkE := hk _ (rd_mem hi)
        have hlen := hP.len
        have hup := up_len (ck := ckR) rows (ckE (rd e (i : Int)))
        simp only [ledger_Post.l1, e1]
        rw [if_pos (by omega), if_pos (by omega), post_l2 hkE hP.sort hP.key (by omega), Option.bind_some]
        have hput : ¬ HasK ckR rows (ckE (rd e (i : Int))) → ∃ s' : List api_Row × Nat, ((slices_Insert_api_Row.f rows (((upTo ckR rows (ckE (rd e (i : Int)))).length : Nat) : Int) ([(⟨(rd e (i : Int)).Kind, (rd e (i : Int)).N, 0⟩ : api_Row)])).bind fun y => ledger_Post.l1 e q y ((i + 1 : Nat) : Int)) = ledger_Post.l1 e q s'.1 (s'.2 : Int) ∧ (s'.2 ≤ e.length ∧ PutIn l e s'.2 s'.1) ∧ e.length - s'.2 < e.length - i := by
          intro hn
          unfold slices_Insert_api_Row.f
          rw [if_pos ⟨by omega, by omega, rfl, by omega⟩, Option.bind_some, Int.toNat_natCast, take_up, drop_up]
          obtain ⟨g1, g2⟩ := hP.sort.insert (m := rowE (rd e (i : Int))) (by rw [ckR_rowE]; exact hn)
          rw [ckR_rowE] at g1 g2
          refine ⟨(upTo ckR rows (ckE (rd e (i : Int))) ++ [rowE (rd e (i : Int))] ++ from' ckR rows (ckE (rd e (i : Int))), i + 1), rfl, ⟨by simp only; omega, g1, fun x hx => ?_, ?_, fun x hx => ?_, fun c => ?_⟩, by simp only; omega⟩
          · rcases (g2 x).1 hx with hx | rfl
            · exact hP.key x hx
            · exact hkE
          · have := from_len (ck := ckR) rows (ckE (rd e (i : Int)))
            simp only [List.length_append, List.length_cons, List.length_nil]; omega
          · rcases (g2 x).1 hx with hx | rfl
            · exact hP.val x hx
            · right
              refine ⟨rfl, fun hh => hn ?_⟩
              rw [ckR_rowE] at hh
              exact (hP.has _).2 (.inl hh)
          · rw [hasE_succ hi, ← or_assoc, ← hP.has c]
            constructor
            · rintro ⟨x, hx, hc⟩
              rcases (g2 x).1 hx with hx | rfl
              · exact .inl ⟨x, hx, hc⟩
              · exact .inr hc
            · rintro (⟨x, hx, hc⟩ | hc)
              · exact ⟨x, (g2 x).2 (.inl hx), hc⟩
              · exact ⟨_, (g2 _).2 (.inr rfl), hc⟩
        by_cases hend : (((upTo ckR rows (ckE (rd e (i : Int)))).length : Nat) : Int) = (rows.length : Int)
        · rw [if_pos hend]
          exact hput fun hh => by have := ((at_has hP.sort).1 hh).1; omega
        · have hlt : (upTo ckR rows (ckE (rd e (i : Int)))).length < rows.length := by omega
          rw [if_neg hend, if_pos (by omega), order_row, Option.bind_some]
          have ho := ordE_lt hkE (hP.key _ (rd_mem hlt))
          by_cases hz : ordR (rowE (rd e (i : Int))) (rd rows (((upTo ckR rows (ckE (rd e (i : Int)))).length : Nat) : Int)) = 0
          · rw [if_neg (fun h => h hz)]
            have hh : HasK ckR rows (ckE (rd e (i : Int))) := (at_has hP.sort).2 ⟨hlt, ho.2.1 hz⟩
            refine ⟨(rows, i + 1), rfl, ⟨by simp only; omega, hP.sort, hP.key, by have := hP.len; simp only; omega, hP.val, fun c => ?_⟩, by simp only; omega⟩
            rw [hasE_succ hi, ← or_assoc, ← hP.has c]
            exact ⟨.inl, fun h => h.elim id fun h => h ▸ hh⟩
          · rw [if_pos hz]
            exact hput fun hh => hz (ho.2.2 ((at_has hP.sort).1 hh).2)
      · right
        have : i = e.length := by omega
        subst this
        refine ⟨(rows, (e.length : Int)), ?_, rfl, hP⟩
        show ledger_Post.l1 e (q + 1) rows (e.length : Int) = _
        simp only [ledger_Post.l1]; rw [if_neg (by omega)])
    (s0 := (l, 0)) ⟨Nat.zero_le _, hS.sort, hS.key, by simp, fun x hx => .inl hx, fun c => by simp [HasE]⟩ (by simp only; omega)
  obtain ⟨r, h1, h2, h3⟩ := h
  rw [show ((0 : Nat) : Int) = 0 from rfl] at h1
  obtain ⟨r1, r2⟩ := r
  simp only at h2 h3
  exact ⟨r1, by rw [h1, h2], h3⟩
/-- What a row has behind its entries. -/
def esum (e : List api_Entry) (k n : Int) : Int := ((e.filter (fun x => decide (x.Kind = k ∧ x.N = n))).map (·.X)).sum
theorem psum_parts (e : List api_Entry) (k n : Int) : psum (partsOf e) k n = esum e k n := by
  unfold psum esum partsOf
  rw [List.filter_map, List.map_map]
  rfl
theorem flatMap_ifE {k n : Int} (e : List api_Entry) : (e.flatMap fun x => if x.Kind = k ∧ x.N = n then [x.X] else []) = (e.filter (fun x => decide (x.Kind = k ∧ x.N = n))).map (·.X) := flatMap_if (fun x : api_Entry => x.Kind = k ∧ x.N = n) (·.X) e
theorem post_l4 {e : List api_Entry} (hel : e.length < 2 ^ 20) (s5 : List api_Row × Int) (j : Nat) (v : Int) :
    ledger_Post.l4 e s5 (j : Int) FUEL [v] 0 = some (v :: (e.filter (fun x => decide (x.Kind = (rd s5.1 (j : Int)).Kind ∧ x.N = (rd s5.1 (j : Int)).N))).map (·.X), (e.length : Int)) := by
  have h := loop_inv (fun q (s : List Int × Nat) => ledger_Post.l4 e s5 (j : Int) q s.1 (s.2 : Int)) (fun s => s.2 ≤ e.length ∧ s.1 = v :: ((e.take s.2).flatMap fun x => if x.Kind = (rd s5.1 (j : Int)).Kind ∧ x.N = (rd s5.1 (j : Int)).N then [x.X] else [])) (fun s => e.length - s.2)
    (fun r => r = (v :: (e.flatMap fun x => if x.Kind = (rd s5.1 (j : Int)).Kind ∧ x.N = (rd s5.1 (j : Int)).N then [x.X] else []), (e.length : Int)))
    (fun q s hs => by
      obtain ⟨t, i⟩ := s
      obtain ⟨h1, h2⟩ := hs
      simp only at h1 h2
      by_cases hi : i < e.length
      · left
        have e1 := wsucc (i := i) (by omega)
        have hlen : t.length ≤ i + 1 := by
          rw [h2, List.length_cons]
          have := flatMap_if_len (fun x : api_Entry => x.Kind = (rd s5.1 (j : Int)).Kind ∧ x.N = (rd s5.1 (j : Int)).N) (·.X) (e.take i)
          rw [List.length_take] at this
          omega
        simp only [ledger_Post.l4, e1]
        rw [if_pos (by omega), if_pos (by omega)]
        by_cases c1 : (rd e (i : Int)).Kind = (rd s5.1 (j : Int)).Kind
        · by_cases c2 : (rd e (i : Int)).N = (rd s5.1 (j : Int)).N
          · rw [if_pos c1, if_pos c2, if_pos (by omega)]
            refine ⟨(t ++ [(rd e (i : Int)).X], i + 1), rfl, ⟨by simp only; omega, ?_⟩, by simp only; omega⟩
            simp only
            rw [take_succ_rd e hi, List.flatMap_append, h2]
            simp [c1, c2]
          · rw [if_pos c1, if_neg c2]
            refine ⟨(t, i + 1), rfl, ⟨by simp only; omega, ?_⟩, by simp only; omega⟩
            simp only
            rw [take_succ_rd e hi, List.flatMap_append, h2]
            simp [c2]
        · rw [if_neg c1]
          refine ⟨(t, i + 1), rfl, ⟨by simp only; omega, ?_⟩, by simp only; omega⟩
          simp only
          rw [take_succ_rd e hi, List.flatMap_append, h2]
          simp [c1]
      · right
        have : i = e.length := by omega
        subst this
        refine ⟨_, ?_, rfl⟩
        show ledger_Post.l4 e s5 (j : Int) (q + 1) t (e.length : Int) = _
        simp only [ledger_Post.l4]
        rw [if_neg (by omega), h2, List.take_length])
    (s0 := ([v], 0)) ⟨Nat.zero_le _, by simp⟩ (by simp only; omega)
  obtain ⟨r, h1, h2⟩ := h
  rw [show ((0 : Nat) : Int) = 0 from rfl] at h1
  rw [h1, h2, flatMap_ifE]
end Go.Ax

/- LedgerAll: what is told of rows is true. -/
set_option linter.unusedVariables false
set_option linter.unusedSimpArgs false
set_option maxRecDepth 100000
set_option maxHeartbeats 4000000
namespace Go.Ax
open Go
theorem ledger_known : novationlaw12_known.f = some true := by decide +kernel
theorem hWide_of {w z : Int} (hw : Wid w) (hz : BigOk z) (h : w = z) : novationhelp_Wide.f w z = some true := by
  unfold novationhelp_Wide.f
  rw [if_pos ⟨hw, hz⟩, decide_eq_true h]
theorem ledgerAll_true {l : List api_Row} (hl : l.length < 281474976710656) (hI : RowI l) (k n : Int) : novationlaw12_LedgerAll.f l k n = some true := by
  unfold novationlaw12_LedgerAll.f
  rw [ledger_known, Option.bind_some, if_neg (by simp)]
  by_cases h80 : (l.length : Int) > 80
  · rw [if_pos h80]
  · rw [if_neg h80, ledger_Key_eq, rKey_eq]
    simp only [Option.bind_some, if_true]
    rw [ledger_Right_eq l (by omega), rRows_eq l (by omega), ledger_Get_eq l k n (by omega), rGet_eq l k n (by omega), ledger_Total_eq hI (by omega), rTotal_eq hI (by omega)]
    simp only [Option.bind_some, if_true]
    rw [hWide_of ?_ ?_ rfl]
    · rfl
    · split
      · exact (sum_wid (row_vals hI) (by rw [List.length_map]; omega)).1
      · decide
    · split
      · exact rowSum_big hI (by omega)
      · decide
end Go.Ax

/- LedgerPosts: what is told of postings is true. -/
set_option linter.unusedVariables false
set_option linter.unusedSimpArgs false
set_option maxRecDepth 100000
set_option maxHeartbeats 4000000
namespace Go.Ax
open Go
theorem ck_kn {x : api_Row} (h : keyOk x.Kind x.N) : ((ckR x / 25 : Nat) : Int) = x.Kind ∧ ((ckR x % 25 : Nat) : Int) = x.N := by
  have h1 := ckR_eq h
  have h2 := keyOk_range h
  omega
theorem newv_row {l : List api_Row} (hS : RowsS l) {e : List api_Entry} {i : Nat} {rows : List api_Row} (hP : PutIn l e i rows) {x : api_Row} (hx : x ∈ rows) (p : List novationref10_Part) : newv l p (ckR x) = x.Sum + psum p x.Kind x.N := by
  have hk := hP.key x hx
  have h1 := ckR_eq hk
  have h2 := keyOk_range hk
  obtain ⟨e1, e2⟩ := ck_kn hk
  unfold newv
  rw [e1, e2, getOf_val hS.key (by omega) (by omega) (by omega)]
  congr 1
  show valK ckR (·.Sum) l (ckR x) = x.Sum
  rcases hP.val x hx with h | ⟨h3, h4⟩
  · exact valK_mem hS.sort h
  · rw [valK_none h4, h3]
theorem row_with (x : api_Row) (s : Int) : ({ x with Sum := s } : api_Row) = ⟨x.Kind, x.N, s⟩ := rfl
theorem rowItem_row {x : api_Row} (h : keyOk x.Kind x.N) (f : Nat → Int) : rowItem f (ckR x) = if f (ckR x) = 0 then [] else [({ x with Sum := f (ckR x) } : api_Row)] := by
  obtain ⟨e1, e2⟩ := ck_kn h
  unfold rowItem
  rw [e1, e2]
theorem wid_of_i64 {z : Int} (h : I64 z) : Wid z := by unfold I64 at h; unfold Wid; omega
theorem post_l3 {l : List api_Row} (hS : RowsS l) (hI : RowI l) {e : List api_Entry} (he : EntryI e) (hel : e.length < 2 ^ 20) {rows : List api_Row} (hP : PutIn l e e.length rows) (hl : l.length < 2 ^ 20) (z : Int) :
    ledger_Post.l3 e (rows, z) FUEL [] 0 = some (if rows.all (fun x => fitsC (newv l (partsOf e)) (ckR x)) = true then .out (rows.flatMap (fun x => rowItem (newv l (partsOf e)) (ckR x)), (rows.length : Int)) else .ret ([], 2)) := by
  have hlen := hP.len
  obtain ⟨f, hf⟩ : ∃ f, f = newv l (partsOf e) := ⟨_, rfl⟩
  rw [← hf]
  have h := loop_inv (fun q (s : List api_Row × Nat) => ledger_Post.l3 e (rows, z) q s.1 (s.2 : Int)) (fun s => s.2 ≤ rows.length ∧ s.1 = (rows.take s.2).flatMap (fun x => rowItem f (ckR x)) ∧ (rows.take s.2).all (fun x => fitsC f (ckR x)) = true) (fun s => rows.length - s.2)
    (fun r => r = if rows.all (fun x => fitsC f (ckR x)) = true then .out (rows.flatMap (fun x => rowItem f (ckR x)), (rows.length : Int)) else .ret ([], 2))
    (fun q s hs => by
      obtain ⟨out, i⟩ := s
      obtain ⟨h1, h2, h3⟩ := hs
      simp only at h1 h2 h3
      by_cases hi : i < rows.length
      · have e1 := wsucc (i := i) (by omega)
        have hmem := rd_mem hi
        have hk := hP.key _ hmem
        have hsum : I64 (rd rows (i : Int)).Sum := by
          rcases hP.val _ hmem with h | ⟨h, _⟩
          · obtain ⟨j, hj, ej⟩ := mem_rd h
            rw [ej]; exact hI j hj
          · rw [h]; decide
        have hfv : f (ckR (rd rows (i : Int))) = (rd rows (i : Int)).Sum + esum e (rd rows (i : Int)).Kind (rd rows (i : Int)).N := by rw [hf, newv_row hS hP hmem, psum_parts]
        have hit := rowItem_row hk f
        have hout : out.length ≤ i := by
          rw [h2]
          have : ∀ l : List api_Row, (l.flatMap (fun x => rowItem f (ckR x))).length ≤ l.length := by
            intro l
            induction l with
            | nil => simp
            | cons x l ih => rw [List.flatMap_cons, List.length_append, List.length_cons]; have := rowItem_len f (ckR x); omega
          have := this (rows.take i)
          rw [List.length_take] at this
          omega
        have htake : ∀ g : api_Row → List api_Row, (rows.take (i + 1)).flatMap g = (rows.take i).flatMap g ++ g (rd rows (i : Int)) := fun g => by rw [take_succ_rd rows hi, List.flatMap_append]; simp
        have hall : ∀ g : api_Row → Bool, (rows.take (i + 1)).all g = ((rows.take i).all g && g (rd rows (i : Int))) := fun g => by rw [take_succ_rd rows hi, List.all_append]; simp
        have hbad : fitsC f (ckR (rd rows (i : Int))) = false → rows.all (fun x => fitsC f (ckR x)) = false := fun hb => by
          cases hc : rows.all (fun x => fitsC f (ckR x)) with
          | false => rfl
          | true => rw [List.all_eq_true.1 hc _ hmem] at hb; cases hb
        simp only [ledger_Post.l3, e1]
        rw [if_pos (by omega), if_pos (by omega)]
        unfold wide_Of.f
        rw [if_pos hsum, Option.bind_some, post_l4 hel, Option.bind_some]
        simp only
        obtain ⟨E, hE⟩ : ∃ E, E = (e.filter (fun x => decide (x.Kind = (rd rows (i : Int)).Kind ∧ x.N = (rd rows (i : Int)).N))).map (·.X) := ⟨_, rfl⟩
        have hEs : E.sum = esum e (rd rows (i : Int)).Kind (rd rows (i : Int)).N := by rw [hE]; rfl
        have hEl : E.length ≤ e.length := by rw [hE, List.length_map]; exact List.length_filter_le _ _
        have hEw : ∀ x ∈ E, Wid x := by
          intro x hx
          rw [hE] at hx
          obtain ⟨y, hy, rfl⟩ := List.mem_map.1 hx
          exact he y (List.mem_filter.1 hy).1
        rw [← hE]
        unfold wide_Sum.f
        rw [if_pos ⟨List.all_eq_true.2 fun x hx => by
          rcases List.mem_cons.1 hx with rfl | hx
          · exact decide_eq_true (wid_of_i64 hsum)
          · exact decide_eq_true (hEw x hx), by simp only [List.length_cons]; omega⟩, Option.bind_some, List.sum_cons, hEs, ← hfv]
        simp only
        unfold wide_Int.f
        by_cases hw : Wid (f (ckR (rd rows (i : Int))))
        · have w1 : wfit (f (ckR (rd rows (i : Int)))) = true := decide_eq_true hw
          have w2 : wfitV (f (ckR (rd rows (i : Int)))) = f (ckR (rd rows (i : Int))) := by unfold wfitV; rw [if_pos hw]
          rw [w1, w2, if_pos hw, Option.bind_some, if_neg (by simp)]
          simp only
          cases hfit : fit (f (ckR (rd rows (i : Int)))) with
          | false =>
            right
            rw [if_pos (by simp)]
            refine ⟨_, rfl, ?_⟩
            rw [hbad hfit]; rfl
          | true =>
            left
            have v1 : fitV (f (ckR (rd rows (i : Int)))) = f (ckR (rd rows (i : Int))) := by unfold fitV; rw [if_pos hfit]
            rw [if_neg (by simp), v1]
            by_cases hz : f (ckR (rd rows (i : Int))) = 0
            · rw [if_neg (fun h => h hz)]
              refine ⟨(out, i + 1), rfl, ⟨by simp only; omega, ?_, ?_⟩, by simp only; omega⟩
              · simp only
                rw [htake, hit, if_pos hz, List.append_nil]; exact h2
              · simp only
                rw [hall, h3]; exact hfit
            · rw [if_pos hz, if_pos (by omega)]
              refine ⟨(out ++ [({ (rd rows (i : Int)) with Sum := f (ckR (rd rows (i : Int))) } : api_Row)], i + 1), rfl, ⟨by simp only; omega, ?_, ?_⟩, by simp only; omega⟩
              · simp only
                rw [htake, hit, if_neg hz, h2]
              · simp only
                rw [hall, h3]; exact hfit
        · right
          have w1 : wfit (f (ckR (rd rows (i : Int)))) = false := decide_eq_false hw
          have w2 : wfitV (f (ckR (rd rows (i : Int)))) = 0 := by unfold wfitV; rw [if_neg hw]
          rw [w1, w2, if_pos (by decide), Option.bind_some, if_pos (by simp)]
          refine ⟨_, rfl, ?_⟩
          rw [hbad (by
            unfold fitsC
            cases hc : fit (f (ckR (rd rows (i : Int)))) with
            | false => rfl
            | true => exact absurd (wid_of_i64 (fit_true hc)) hw)]
          rfl
      · right
        have : i = rows.length := by omega
        subst this
        rw [List.take_length] at h2 h3
        refine ⟨.out (out, (rows.length : Int)), ?_, ?_⟩
        · show ledger_Post.l3 e (rows, z) (q + 1) out (rows.length : Int) = _
          simp only [ledger_Post.l3]; rw [if_neg (by omega)]
        · rw [if_pos h3, h2])
    (s0 := ([], 0)) ⟨Nat.zero_le _, by simp, by simp⟩ (by simp only; omega)
  obtain ⟨r, h1, h2⟩ := h
  rw [show ((0 : Nat) : Int) = 0 from rfl] at h1
  rw [h1, h2]
theorem esum_none {e : List api_Entry} {c : Nat} (hk : keysOk e) (h : ¬ HasE e c) : esum e ((c / 25 : Nat) : Int) ((c % 25 : Nat) : Int) = 0 := by
  unfold esum
  have : e.filter (fun x => decide (x.Kind = ((c / 25 : Nat) : Int) ∧ x.N = ((c % 25 : Nat) : Int))) = [] := by
    rw [List.filter_eq_nil_iff]
    intro x hx hc
    have hc := of_decide_eq_true hc
    refine h ⟨x, hx, ?_⟩
    unfold ckE
    rw [hc.1, hc.2]
    omega
  rw [this]; rfl
theorem laid_rows {l : List api_Row} (hS : RowsS l) {e : List api_Entry} (hk : keysOk e) {rows : List api_Row} (hP : PutIn l e e.length rows) :
    laidOf (newv l (partsOf e)) = if rows.all (fun x => fitsC (newv l (partsOf e)) (ckR x)) = true then (rows.flatMap (fun x => rowItem (newv l (partsOf e)) (ckR x)), true) else ([], false) := by
  have hno : ∀ c, 25 ≤ c → c < 25 + 175 → ¬ HasK ckR rows c → newv l (partsOf e) c = 0 := by
    intro c h1 h2 h3
    rw [hP.has, List.take_length, not_or] at h3
    unfold newv
    rw [psum_parts, esum_none hk h3.2, getOf_val hS.key (by omega) (by omega) (by omega)]
    rw [show (((c / 25 : Nat) : Int) * 25 + ((c % 25 : Nat) : Int)).toNat = c by omega, valK_none h3.1]
    rfl
  have hfl := flat_keys (ck := ckR) (rowItem (newv l (partsOf e))) 175 25 rows hP.sort (fun x hx => by have := (ckR_eq (hP.key x hx)).2; omega) (fun c h1 h2 h3 => by unfold rowItem; rw [if_pos (hno c h1 h2 h3)])
  have hal : codes.all (fitsC (newv l (partsOf e))) = rows.all (fun x => fitsC (newv l (partsOf e)) (ckR x)) := by
    rw [Bool.eq_iff_iff, List.all_eq_true, List.all_eq_true]
    constructor
    · intro h x hx
      have := (ckR_eq (hP.key x hx)).2
      exact h _ (List.mem_range'_1.2 (by omega))
    · intro h c hc
      have hc' := List.mem_range'_1.1 hc
      by_cases hh : HasK ckR rows c
      · obtain ⟨x, hx, rfl⟩ := hh
        exact h x hx
      · unfold fitsC
        rw [hno c (by omega) (by omega) hh]
        decide
  unfold laidOf
  rw [hal, show codes.flatMap (rowItem (newv l (partsOf e))) = _ from hfl]
theorem post_l0 {e : List api_Entry} (hel : e.length < 2 ^ 20) : ledger_Post.l0 e FUEL [] 0 = some (if keysOk e then .out (e.map (·.X), (e.length : Int)) else .ret ([], 1)) := by
  have h := loop_inv (fun q (s : List Int × Nat) => ledger_Post.l0 e q s.1 (s.2 : Int)) (fun s => s.2 ≤ e.length ∧ s.1 = (e.take s.2).map (·.X) ∧ keysOk (e.take s.2)) (fun s => e.length - s.2) (fun r => r = if keysOk e then .out (e.map (·.X), (e.length : Int)) else .ret ([], 1))
    (fun q s hs => by
      obtain ⟨t, i⟩ := s
      obtain ⟨h1, h2, h3⟩ := hs
      simp only at h1 h2 h3
      by_cases hi : i < e.length
      · have e1 := wsucc (i := i) (by omega)
        have hlen : t.length ≤ i := by rw [h2, List.length_map, List.length_take]; omega
        simp only [ledger_Post.l0, e1, ledger_Key_eq, Option.bind_some, decide_eq_true_eq]
        rw [if_pos (by omega), if_pos (by omega)]
        by_cases hk : keyOk (rd e (i : Int)).Kind (rd e (i : Int)).N
        · left
          rw [if_neg (by simp [hk]), if_pos (by omega)]
          refine ⟨(t ++ [(rd e (i : Int)).X], i + 1), rfl, ⟨by simp only; omega, ?_, ?_⟩, by simp only; omega⟩
          · simp only
            rw [take_succ_rd e hi, List.map_append, h2]; rfl
          · simp only
            rw [take_succ_rd e hi]
            intro x hx
            rcases List.mem_append.1 hx with hx | hx
            · exact h3 x hx
            · rw [List.mem_singleton.1 hx]; exact hk
        · right
          rw [if_pos (by simp [hk])]
          refine ⟨_, rfl, ?_⟩
          rw [if_neg (fun h => hk (h _ (rd_mem hi)))]
      · right
        have : i = e.length := by omega
        subst this
        rw [List.take_length] at h2 h3
        refine ⟨.out (t, (e.length : Int)), ?_, ?_⟩
        · show ledger_Post.l0 e (q + 1) t (e.length : Int) = _
          simp only [ledger_Post.l0]; rw [if_neg (by omega)]
        · rw [if_pos h3, h2])
    (s0 := ([], 0)) ⟨Nat.zero_le _, rfl, by intro x hx; simp at hx⟩ (by simp only; omega)
  obtain ⟨r, h1, h2⟩ := h
  rw [show ((0 : Nat) : Int) = 0 from rfl] at h1
  rw [h1, h2]
theorem clone_row {l : List api_Row} (hl : l.length < 2 ^ 32) : slices_Clone_api_Row.f l = some l := by
  unfold slices_Clone_api_Row.f nilT
  rw [if_pos (c := l.length ≤ 100000000000) (by omega)]
  by_cases h : l = []
  · subst h; rfl
  · rw [if_neg h]
theorem clip_row (l : List api_Row) : slices_Clip_api_Row.f l = some l := by
  unfold slices_Clip_api_Row.f
  rw [if_pos ⟨by omega, by omega, by omega, by omega⟩, Int.toNat_natCast, List.take_length]
theorem ledger_Post_eq {l : List api_Row} (hI : RowI l) (hl : l.length < 2 ^ 20) {e : List api_Entry} (he : EntryI e) (hel : e.length < 2 ^ 20) : ledger_Post.f l e = some (postOf l e) := by
  unfold ledger_Post.f postOf
  rw [ledger_Right_eq l (by omega), Option.bind_some]
  by_cases hr : rowsOk l = true
  · rw [if_neg (by simp [hr])]
    by_cases h400 : (e.length : Int) > 400
    · rw [if_pos h400, if_pos (.inr (.inl (by omega)))]
    · rw [if_neg h400, if_pos ⟨by omega, by omega⟩, post_l0 hel, Option.bind_some, flow_if]
      by_cases hk : keysOk e
      · rw [if_pos hk]
        simp only
        have hS := rowsOk_S.1 hr
        unfold wide_Sum.f
        rw [if_pos ⟨List.all_eq_true.2 fun x hx => by
          obtain ⟨y, hy, rfl⟩ := List.mem_map.1 hx
          exact decide_eq_true (he y hy), by rw [List.length_map]; omega⟩, Option.bind_some]
        simp only
        have hes : (e.map (·.X)).sum = entSum e := rfl
        rw [hes]
        obtain ⟨rows, hrw, hP⟩ := post_l1 hS hl hk hel
        have hlen := hP.len
        unfold wide_Sign.f
        rw [Option.bind_some]
        by_cases hz : entSum e = 0
        · have w1 : wfit (0 : Int) = true := by decide
          have w2 : wfitV (0 : Int) = 0 := by decide
          rw [hz, w1, w2, if_neg (by simp), if_neg (by decide), clone_row (by omega), Option.bind_some, hrw, Option.bind_some]
          simp only
          rw [if_pos ⟨by omega, by omega⟩, post_l3 hS hI he hel hP hl, Option.bind_some, flow_if, laid_rows hS hk hP, if_neg (c := _ ∨ _) (by
            rintro (h | h | h | h)
            · exact h hr
            · omega
            · exact h hk
            · exact h rfl)]
          cases hall : rows.all (fun x => fitsC (newv l (partsOf e)) (ckR x)) with
          | false => rfl
          | true => simp only [if_true, clip_row, Option.bind_some]
        · by_cases hw : wfit (entSum e) = true
          · have w2 : wfitV (entSum e) = entSum e := by unfold wfitV; rw [if_pos (of_decide_eq_true hw)]
            rw [hw, w2, if_neg (by simp), if_pos (by rw [cmpZ]; exact hz), if_pos (.inr (.inr (.inr hz)))]
          · rw [if_pos hw, if_pos (.inr (.inr (.inr hz)))]
      · rw [if_neg hk, if_pos (.inr (.inr (.inl hk)))]
  · rw [if_pos hr, if_pos (.inl hr)]
theorem laid_len (f : Nat → Int) : (laidOf f).1.length ≤ 175 := by
  unfold laidOf
  split
  · have : ∀ (d c : Nat), ((List.range' c d).flatMap (rowItem f)).length ≤ d := by
      intro d
      induction d with
      | zero => intro c; simp
      | succ d ih => intro c; rw [List.range'_succ, List.flatMap_cons, List.length_append]; have := ih (c + 1); have := rowItem_len f c; omega
    exact this 175 25
  · simp
theorem post_len (l : List api_Row) (e : List api_Entry) : (postOf l e).1.length ≤ 175 := by
  unfold postOf
  split
  · simp
  · split
    · exact laid_len _
    · simp
theorem hRowsP_eq (l : List api_Row) (hl : l.length < 2 ^ 59) : novationhelp_Rows.f l l = some true := by
  unfold novationhelp_Rows.f
  rw [if_neg (fun h => h rfl), loop_allg (fun k i => novationhelp_Rows.l0 l l k i) l.length (fun _ => True) false (l.length : Int) _ (fun k i hi _ => ?_) (fun k i hi hP => absurd trivial hP) (fun k => by simp only [novationhelp_Rows.l0]; rw [if_neg (by omega)]) hl, if_pos (fun _ _ => trivial)]
  simp only [novationhelp_Rows.l0, wsucc (i := i) (by omega)]
  rw [if_pos (by omega), if_pos (by omega), if_pos (by omega), if_neg (by simp)]
theorem posts_true {l : List api_Row} (hI : RowI l) (hl : l.length < 2 ^ 20) {e : List api_Entry} (he : EntryI e) (hel : e.length < 2 ^ 20) : novationlaw12_posts.f l e = some true := by
  have := post_len l e
  unfold novationlaw12_posts.f
  rw [ledger_Post_eq hI hl he hel, rPost_eq hI (by omega) he (by omega), Option.bind_some, Option.bind_some, if_pos rfl, hRowsP_eq _ (by omega)]
  rfl
/-- Moving is posting two entries. -/
def moveE (a b : api_Row) (x : Int) : List api_Entry := [⟨a.Kind, a.N, -x⟩, ⟨b.Kind, b.N, x⟩]
theorem moveE_I (a b : api_Row) {x : Int} (hx : I64 x) : EntryI (moveE a b x) := by
  intro y hy
  unfold I64 at hx
  unfold moveE at hy
  rcases List.mem_cons.1 hy with rfl | hy
  · show Wid (-x); unfold Wid; omega
  · rcases List.mem_cons.1 hy with rfl | hy
    · show Wid x; unfold Wid; omega
    · cases hy
theorem ledger_Move_eq {l : List api_Row} (hI : RowI l) (hl : l.length < 2 ^ 20) (a b : api_Row) {x : Int} (hx : I64 x) : ledger_Move.f l a b x = some (postOf l (moveE a b x)) := by
  have hw : Wid x := wid_of_i64 hx
  have hn : Wid (-x) := by unfold I64 at hx; unfold Wid; omega
  unfold ledger_Move.f wide_Of.f wide_Neg.f
  rw [if_pos hx, Option.bind_some, if_pos hw, Option.bind_some]
  have e : wfitV (-x) = -x := by unfold wfitV; rw [if_pos hn]
  simp only [e]
  have h2 : ledger_Post.f l [⟨a.Kind, a.N, -x⟩, ⟨b.Kind, b.N, x⟩] = _ := ledger_Post_eq hI hl (moveE_I a b hx) (by simp [moveE])
  rw [h2]
  rfl
theorem rMoveRow_eq {l : List api_Row} (hI : RowI l) (hl : l.length < 2 ^ 20) (a b : api_Row) {x : Int} (hx : I64 x) : novationref10_MoveRow.f l a.Kind a.N b.Kind b.N x = some (postOf l (moveE a b x)) := by
  unfold novationref10_MoveRow.f postOf
  rw [rRows_eq l (by omega), Option.bind_some]
  have hlen : (moveE a b x).length = 2 := rfl
  have hz : entSum (moveE a b x) = 0 := by unfold entSum moveE; simp; omega
  have hk : keysOk (moveE a b x) ↔ keyOk a.Kind a.N ∧ keyOk b.Kind b.N := by
    unfold keysOk moveE
    simp
  by_cases hr : rowsOk l = true
  · rw [if_neg (by simp [hr]), rKey_eq, rKey_eq]
    simp only [Option.bind_some, decide_eq_true_eq]
    by_cases k1 : keyOk a.Kind a.N
    · rw [if_neg (fun h => h k1)]
      by_cases k2 : keyOk b.Kind b.N
      · rw [if_neg (fun h => h k2)]
        have hB : BigOk x := bigOk_of (Nat.lt_trans (i64_big hx) (by decide))
        unfold novationref1_Whole.f novationref10_Both.f novationref1_Turned.f
        rw [if_pos hx, Option.bind_some, if_pos hB]
        simp only [Option.bind_some]
        have h2 : novationref10_Laid.f l [⟨a.Kind, a.N, -x⟩, ⟨b.Kind, b.N, x⟩] = some (laidOf (newv l (partsOf (moveE a b x)))) := rLaid_eq (rowsOk_S.1 hr) hI (by omega) (partsOf_B (moveE_I a b hx) (by simp [moveE]))
        rw [h2, Option.bind_some, if_neg (c := _ ∨ _) (by
          rintro (h | h | h | h)
          · exact h hr
          · rw [hlen] at h; omega
          · exact h (hk.2 ⟨k1, k2⟩)
          · exact h hz)]
        by_cases hf : (laidOf (newv l (partsOf (moveE a b x)))).2 = true
        · rw [if_neg (by simp [hf]), if_pos hf]
        · rw [if_pos hf, if_neg hf]
      · rw [if_pos k2, if_pos (.inr (.inr (.inl fun h => k2 (hk.1 h).2)))]
    · rw [if_pos k1, if_pos (.inr (.inr (.inl fun h => k1 (hk.1 h).1)))]
  · rw [if_pos hr, if_pos (.inl hr)]
theorem ledgerPosts_true {l : List api_Row} (hI : RowI l) {e : List api_Entry} (he : EntryI e) (a b : api_Row) {x : Int} (hx : I64 x) : novationlaw12_LedgerPosts.f l e a b x = some true := by
  unfold novationlaw12_LedgerPosts.f
  rw [ledger_known, Option.bind_some, if_neg (by simp)]
  by_cases h80 : (l.length : Int) > 80
  · rw [if_pos h80]
  · rw [if_neg h80]
    by_cases h40 : (e.length : Int) > 40
    · rw [if_pos h40]
    · have := post_len l (moveE a b x)
      rw [if_neg h40, ledger_Move_eq hI (by omega) a b hx, rMoveRow_eq hI (by omega) a b hx, Option.bind_some, Option.bind_some, if_pos rfl, hRowsP_eq _ (by omega), Option.bind_some, if_pos rfl, posts_true hI (by omega) he (by omega)]
      rfl
end Go.Ax

/- StockAll: what is told of positions is true. -/
set_option linter.unusedVariables false
set_option linter.unusedSimpArgs false
set_option maxRecDepth 100000
set_option maxHeartbeats 4000000
namespace Go.Ax
open Go
theorem stock_known : novationlaw13_known.f = some true := by decide +kernel
theorem hWide_ofS {w z : Int} (hw : Wid w) (hz : BigOk z) (h : w = z) : novationhelp_Wide.f w z = some true := by
  unfold novationhelp_Wide.f
  rw [if_pos ⟨hw, hz⟩, decide_eq_true h]
/-- A position. -/
def heldOf (l : List api_Pos) (a n : Int) : Int := match l.find? (fun x => decide (x.Acc = a ∧ x.Inst = n)) with | some x => x.Q | none => 0
def heldR (l : List api_Pos) (a n : Int) : Int := if stockOk l = true then heldOf l a n else 0
theorem stock_Get_eq (l : List api_Pos) (a n : Int) (hl : l.length < 2 ^ 59) : stock_Get.f l a n = some (heldR l a n) := by
  have h := loop_find1 (fun q i => stock_Get.l0 l a n q i) l (fun x => decide (x.Acc = a ∧ x.Inst = n)) (fun x => x.Q) (l.length : Int) (fun q i hi => ?_) (fun k => ?_) hl
  · unfold stock_Get.f heldR heldOf
    rw [stock_Right_eq l hl, h]
    simp only [Option.bind_some]
    by_cases hm : stockOk l = true
    · rw [if_neg (by simp [hm]), if_pos hm]
      cases l.find? (fun x => decide (x.Acc = a ∧ x.Inst = n)) <;> rfl
    · rw [if_pos hm, if_neg hm]
  · have e1 := wsucc (i := i) (by omega)
    simp only [stock_Get.l0, e1, decide_eq_true_eq]
    rw [if_pos (by omega), if_pos (by omega)]
    repeat' (first | with_reducible rfl | (exfalso; omega) | refine ifr (fun _ => ?_) (fun _ => ?_) | refine ifl (fun _ => ?_) (fun _ => ?_))
  · simp only [stock_Get.l0]; rw [if_neg (by omega)]
theorem rHeld_eq (l : List api_Pos) (a n : Int) (hl : l.length < 2 ^ 59) : novationref10_Held.f l a n = some (heldR l a n) := by
  have h := loop_find1 (fun q i => novationref10_Held.l0 l a n q i) l (fun x => decide (x.Acc = a ∧ x.Inst = n)) (fun x => x.Q) (l.length : Int) (fun q i hi => ?_) (fun k => ?_) hl
  · unfold novationref10_Held.f heldR heldOf
    rw [rStock_eq l hl, h]
    simp only [Option.bind_some]
    by_cases hm : stockOk l = true
    · rw [if_neg (by simp [hm]), if_pos hm]
      cases l.find? (fun x => decide (x.Acc = a ∧ x.Inst = n)) <;> rfl
    · rw [if_pos hm, if_neg hm]
  · have e1 := wsucc (i := i) (by omega)
    simp only [novationref10_Held.l0, e1, decide_eq_true_eq]
    rw [if_pos (by omega), if_pos (by omega)]
    repeat' (first | with_reducible rfl | (exfalso; omega) | refine ifr (fun _ => ?_) (fun _ => ?_) | refine ifl (fun _ => ?_) (fun _ => ?_))
  · simp only [novationref10_Held.l0]; rw [if_neg (by omega)]
/-- What moves all of an account. -/
def shiftsOf (acc to : Int) (l : List api_Leg) : List api_Shift := l.flatMap fun x => [⟨acc, x.Inst, IntKind.i64.wrap (0 - x.Q)⟩, ⟨to, x.Inst, x.Q⟩]
theorem flat2_len {α β : Type} (f g : α → β) (l : List α) : (l.flatMap fun x => [f x, g x]).length = 2 * l.length := by
  induction l with
  | nil => rfl
  | cons x l ih => rw [List.flatMap_cons, List.length_append, ih]; simp; omega
def allOf (l : List api_Pos) (acc to : Int) : List api_Shift := if stockOk l = true ∧ 0 ≤ acc ∧ acc ≤ 24 ∧ 0 ≤ to ∧ to ≤ 24 ∧ acc ≠ to then shiftsOf acc to (legsOf l acc) else []
theorem legsOf_len (l : List api_Pos) (acc : Int) : (legsOf l acc).length ≤ l.length := by unfold legsOf; rw [List.length_map]; exact List.length_filter_le _ _
theorem stock_All_eq {l : List api_Pos} (acc to : Int) (hl : l.length < 2 ^ 32) : stock_All.f l acc to = some (allOf l acc to) := by
  unfold stock_All.f allOf
  rw [stock_Right_eq l (by omega), stock_key_eq, stock_key_eq, stock_Of_eq acc hl]
  simp only [Option.bind_some, decide_eq_true_eq]
  by_cases h1 : stockOk l = true
  · rw [if_neg (by simp [h1]), if_pos h1]
    have hlen := legsOf_len l acc
    have h := loop_gather (fun k s i => stock_All.l0 acc to (legsOf l acc) k s i) (legsOf l acc) (fun x => [(⟨acc, x.Inst, IntKind.i64.wrap (0 - x.Q)⟩ : api_Shift), ⟨to, x.Inst, x.Q⟩]) (fun k i s hi e => ?_) (fun k s => ?_) (by omega)
    · rw [h, Option.bind_some]
      simp only
      by_cases h2 : 0 ≤ acc ∧ acc ≤ 24
      · by_cases h3 : 0 ≤ to ∧ to ≤ 24
        · by_cases h4 : acc = to
          · rw [if_neg (by simp; omega), if_neg (by simp; omega), if_pos h4, if_neg (by omega)]
          · rw [if_neg (by simp; omega), if_neg (by simp; omega), if_neg h4, if_pos ⟨h1, h2.1, h2.2, h3.1, h3.2, h4⟩]; rfl
        · rw [if_neg (by simp; omega), if_pos (by omega), if_neg (by omega)]
      · rw [if_pos (by omega), if_neg (by omega)]
    · have e1 := wsucc (i := i) (by omega)
      have hs : s.length ≤ 2 * i := by rw [e, flat2_len, List.length_take]; omega
      simp only [stock_All.l0, e1]
      rw [if_pos (by omega), if_pos (by omega), if_pos (by omega)]
    · simp only [stock_All.l0]; rw [if_neg (by omega)]
  · rw [if_pos h1, if_neg (fun h => h1 h.1)]
theorem flatMap_filter {α β : Type} (p : α → Prop) [DecidablePred p] (f : α → List β) (l : List α) : l.flatMap (fun x => if p x then f x else []) = (l.filter (fun x => decide (p x))).flatMap f := by
  induction l with
  | nil => rfl
  | cons x l ih =>
    rw [List.flatMap_cons, ih]
    by_cases h : p x <;> simp [h]
theorem rAll_eq {l : List api_Pos} (acc to : Int) (hl : l.length < 2 ^ 32) : novationref10_All.f l acc to = some (allOf l acc to) := by
  unfold novationref10_All.f allOf
  rw [rStock_eq l (by omega), Option.bind_some]
  by_cases h1 : stockOk l = true
  · rw [if_neg (by simp [h1])]
    have h := loop_gather (fun k s i => novationref10_All.l0 l acc to k s i) l (fun x => if x.Acc = acc then [(⟨acc, x.Inst, IntKind.i64.wrap (0 - x.Q)⟩ : api_Shift), ⟨to, x.Inst, x.Q⟩] else []) (fun k i s hi e => ?_) (fun k s => ?_) (by omega)
    · rw [h, Option.bind_some]
      simp only
      have e : l.flatMap (fun x => if x.Acc = acc then [(⟨acc, x.Inst, IntKind.i64.wrap (0 - x.Q)⟩ : api_Shift), ⟨to, x.Inst, x.Q⟩] else []) = shiftsOf acc to (legsOf l acc) := by
        rw [flatMap_filter (fun x : api_Pos => x.Acc = acc)]
        unfold shiftsOf legsOf
        rw [List.flatMap_map]
      rw [e]
      by_cases hc : 0 ≤ acc ∧ acc ≤ 24 ∧ 0 ≤ to ∧ to ≤ 24 ∧ acc ≠ to
      · rw [if_neg hc.2.2.2.2, if_neg (by omega), if_neg (by omega), if_neg (by omega), if_neg (by omega), if_pos ⟨h1, hc⟩]
      · rw [if_neg (c := _ ∧ _) (fun h => hc h.2)]
        repeat' (first | with_reducible rfl | refine ifr (fun _ => ?_) (fun _ => ?_))
        all_goals (exfalso; omega)
    · have e1 := wsucc (i := i) (by omega)
      have hs : s.length ≤ 2 * i := by
        rw [e, flatMap_filter (fun x : api_Pos => x.Acc = acc), flat2_len]
        have := List.length_filter_le (fun x : api_Pos => decide (x.Acc = acc)) (l.take i)
        rw [List.length_take] at this
        omega
      simp only [novationref10_All.l0, e1]
      rw [if_pos (by omega), if_pos (by omega)]
      by_cases h : (rd l (i : Int)).Acc = acc
      · rw [if_pos h, if_pos h, if_pos (by omega)]
      · rw [if_neg h, if_neg h, List.append_nil]
    · simp only [novationref10_All.l0]; rw [if_neg (by omega)]
  · rw [if_pos h1, if_neg (fun h => h1 h.1)]
theorem all_trueS {n : Nat} {σ : Type} (L : Nat → Int → Option (Flow σ Bool)) (e : σ) (h : ∀ k (i : Nat), i < n → L (k + 1) i = L k ((i + 1 : Nat) : Int)) (h2 : ∀ k, L (k + 1) (n : Int) = some (.out e)) (hn : n < 2 ^ 59) :
    ((L FUEL 0).bind fun f => f.go fun _ => some true) = some true := by
  rw [loop_allg L n (fun _ => True) false e _ (fun k i hi _ => h k i hi) (fun k i hi hP => absurd trivial hP) h2 hn, if_pos (fun _ _ => trivial)]
theorem hLegs_eq (l : List api_Leg) (hl : l.length < 2 ^ 59) : novationhelp_Legs.f l l = some true := by
  unfold novationhelp_Legs.f
  rw [if_neg (fun h => h rfl)]
  refine all_trueS (fun k i => novationhelp_Legs.l0 l l k i) (l.length : Int) (n := l.length) (fun k i hi => ?_) (fun k => by simp only [novationhelp_Legs.l0]; rw [if_neg (by omega)]) hl
  simp only [novationhelp_Legs.l0, wsucc (i := i) (by omega)]
  rw [if_pos (by omega), if_pos (by omega), if_pos (by omega), if_neg (by simp)]
theorem hShifts_eq (l : List api_Shift) (hl : l.length < 2 ^ 59) : novationhelp_Shifts.f l l = some true := by
  unfold novationhelp_Shifts.f
  rw [if_neg (fun h => h rfl)]
  refine all_trueS (fun k i => novationhelp_Shifts.l0 l l k i) (l.length : Int) (n := l.length) (fun k i hi => ?_) (fun k => by simp only [novationhelp_Shifts.l0]; rw [if_neg (by omega)]) hl
  simp only [novationhelp_Shifts.l0, wsucc (i := i) (by omega)]
  rw [if_pos (by omega), if_pos (by omega), if_pos (by omega), if_neg (by simp)]
theorem stockAll_true {l : List api_Pos} (hl : l.length < 281474976710656) (hI : PosI l) (acc to inst : Int) : novationlaw13_StockAll.f l acc to inst = some true := by
  unfold novationlaw13_StockAll.f
  rw [stock_known, Option.bind_some, if_neg (by simp)]
  by_cases h160 : (l.length : Int) > 160
  · rw [if_pos h160]
  · have hlegs := legsOf_len l acc
    have hsh : (allOf l acc to).length ≤ 2 * l.length := by
      unfold allOf
      split
      · unfold shiftsOf; rw [flat2_len]; omega
      · simp
    rw [if_neg h160, stock_Right_eq l (by omega), rStock_eq l (by omega), stock_Get_eq l _ _ (by omega), rHeld_eq l _ _ (by omega), stock_Of_eq acc (by omega), rOf_eq acc (by omega), stock_Sum_eq inst hI (by omega), rSumInst_eq inst hI (by omega),
      stock_Flat_eq hI (by omega), rFlat_eq hI (by omega), stock_All_eq acc to (by omega), rAll_eq acc to (by omega)]
    simp only [Option.bind_some, if_true]
    rw [hLegs_eq _ (by split <;> simp <;> omega), hShifts_eq _ (by omega), hWide_ofS ?_ ?_ rfl]
    · rfl
    · split
      · exact (sum_wid (stock_vals hI inst) (by rw [List.length_map]; exact Nat.lt_of_le_of_lt (List.length_filter_le _ _) (by omega))).1
      · decide
    · split
      · exact stockSum_big inst hI (by omega)
      · decide
end Go.Ax

/- StockPosts: what is told of shifts is true. -/
set_option linter.unusedVariables false
set_option linter.unusedSimpArgs false
set_option maxRecDepth 100000
set_option maxHeartbeats 4000000
namespace Go.Ax
open Go
theorem posK_ck {x : api_Pos} (h : posK x.Acc x.Inst) : (ckP x : Int) = x.Acc * 6 + x.Inst ∧ ckP x < 150 := by
  unfold posK at h; unfold ckP; omega
theorem ck_an {x : api_Pos} (h : posK x.Acc x.Inst) : ((ckP x / 6 : Nat) : Int) = x.Acc ∧ ((ckP x % 6 : Nat) : Int) = x.Inst := by
  have h1 := posK_ck h
  have h2 := h
  unfold posK at h2
  omega
theorem newq_pos {l : List api_Pos} (hS : StockS l) {e : List api_Shift} {i : Nat} {rows : List api_Pos} (hP : PutS l e i rows) {x : api_Pos} (hx : x ∈ rows) (p : List api_Shift) : newq l p (ckP x) = x.Q + ssum p x.Acc x.Inst := by
  have hk := hP.key x hx
  have h1 := posK_ck hk
  have h2 := hk
  unfold posK at h2
  obtain ⟨e1, e2⟩ := ck_an hk
  unfold newq
  rw [e1, e2, heldO_val hS.key (by omega) (by omega) (by omega)]
  congr 1
  show valK ckP (·.Q) l (ckP x) = x.Q
  rcases hP.val x hx with h | ⟨h3, h4⟩
  · exact valK_mem hS.sort h
  · rw [valK_none h4, h3]
theorem pos_with (x : api_Pos) (s : Int) : ({ x with Q := s } : api_Pos) = ⟨x.Acc, x.Inst, s⟩ := rfl
theorem posItem_pos {x : api_Pos} (h : posK x.Acc x.Inst) (f : Nat → Int) : posItem f (ckP x) = if f (ckP x) = 0 then [] else [({ x with Q := f (ckP x) } : api_Pos)] := by
  obtain ⟨e1, e2⟩ := ck_an h
  unfold posItem
  rw [e1, e2]
theorem spost_l3 {l : List api_Pos} (hS : StockS l) (hI : PosI l) {e : List api_Shift} (he : ShiftI e) (hel : e.length < 2 ^ 20) {rows : List api_Pos} (hP : PutS l e e.length rows) (hl : l.length < 2 ^ 20) (z : Int) :
    stock_Post.l3 e (rows, z) FUEL [] 0 = some (if rows.all (fun x => fitsQ (newq l e) (ckP x)) = true then .out (rows.flatMap (fun x => posItem (newq l e) (ckP x)), (rows.length : Int)) else .ret ([], 2)) := by
  have hlen := hP.len
  obtain ⟨f, hf⟩ : ∃ f, f = newq l e := ⟨_, rfl⟩
  rw [← hf]
  have h := loop_inv (fun q (s : List api_Pos × Nat) => stock_Post.l3 e (rows, z) q s.1 (s.2 : Int)) (fun s => s.2 ≤ rows.length ∧ s.1 = (rows.take s.2).flatMap (fun x => posItem f (ckP x)) ∧ (rows.take s.2).all (fun x => fitsQ f (ckP x)) = true) (fun s => rows.length - s.2)
    (fun r => r = if rows.all (fun x => fitsQ f (ckP x)) = true then .out (rows.flatMap (fun x => posItem f (ckP x)), (rows.length : Int)) else .ret ([], 2))
    (fun q s hs => by
      obtain ⟨out, i⟩ := s
      obtain ⟨h1, h2, h3⟩ := hs
      simp only at h1 h2 h3
      by_cases hi : i < rows.length
      · have e1 := wsucc (i := i) (by omega)
        have hmem := rd_mem hi
        have hk := hP.key _ hmem
        have hsum : I64 (rd rows (i : Int)).Q := by
          rcases hP.val _ hmem with h | ⟨h, _⟩
          · obtain ⟨j, hj, ej⟩ := mem_rd h
            rw [ej]; exact hI j hj
          · rw [h]; decide
        have hfv : f (ckP (rd rows (i : Int))) = (rd rows (i : Int)).Q + ssum e (rd rows (i : Int)).Acc (rd rows (i : Int)).Inst := by rw [hf, newq_pos hS hP hmem]
        have hit := posItem_pos hk f
        have hout : out.length ≤ i := by
          rw [h2]
          have : ∀ l : List api_Pos, (l.flatMap (fun x => posItem f (ckP x))).length ≤ l.length := by
            intro l
            induction l with
            | nil => simp
            | cons x l ih => rw [List.flatMap_cons, List.length_append, List.length_cons]; have := posItem_len f (ckP x); omega
          have := this (rows.take i)
          rw [List.length_take] at this
          omega
        have htake : ∀ g : api_Pos → List api_Pos, (rows.take (i + 1)).flatMap g = (rows.take i).flatMap g ++ g (rd rows (i : Int)) := fun g => by rw [take_succ_rd rows hi, List.flatMap_append]; simp
        have hall : ∀ g : api_Pos → Bool, (rows.take (i + 1)).all g = ((rows.take i).all g && g (rd rows (i : Int))) := fun g => by rw [take_succ_rd rows hi, List.all_append]; simp
        have hbad : fitsQ f (ckP (rd rows (i : Int))) = false → rows.all (fun x => fitsQ f (ckP x)) = false := fun hb => by
          cases hc : rows.all (fun x => fitsQ f (ckP x)) with
          | false => rfl
          | true => rw [List.all_eq_true.1 hc _ hmem] at hb; cases hb
        simp only [stock_Post.l3, e1]
        rw [if_pos (by omega), if_pos (by omega)]
        unfold wide_Of.f
        rw [if_pos hsum, Option.bind_some, spost_l4 he hel, Option.bind_some]
        simp only
        obtain ⟨E, hE⟩ : ∃ E, E = (e.filter (fun x => decide (x.Acc = (rd rows (i : Int)).Acc ∧ x.Inst = (rd rows (i : Int)).Inst))).map (·.Q) := ⟨_, rfl⟩
        have hEs : E.sum = ssum e (rd rows (i : Int)).Acc (rd rows (i : Int)).Inst := by rw [hE]; rfl
        have hEl : E.length ≤ e.length := by rw [hE, List.length_map]; exact List.length_filter_le _ _
        have hEw : ∀ x ∈ E, I64 x := by
          intro x hx
          rw [hE] at hx
          obtain ⟨y, hy, rfl⟩ := List.mem_map.1 hx
          exact he y (List.mem_filter.1 hy).1
        rw [← hE]
        have hall2 : ∀ x ∈ (rd rows (i : Int)).Q :: E, I64 x := fun x hx => by
          rcases List.mem_cons.1 hx with rfl | hx
          · exact hsum
          · exact hEw x hx
        have hw : Wid (f (ckP (rd rows (i : Int)))) := by
          have := (sum_wid hall2 (by simp only [List.length_cons]; omega)).1
          rw [List.sum_cons, hEs, ← hfv] at this
          exact this
        unfold wide_Sum.f
        rw [if_pos ⟨List.all_eq_true.2 fun x hx => decide_eq_true (wid_of_i64 (hall2 x hx)), by simp only [List.length_cons]; omega⟩, Option.bind_some, List.sum_cons, hEs, ← hfv]
        simp only
        unfold wide_Int.f stock_Quantity.f
        have w2 : wfitV (f (ckP (rd rows (i : Int)))) = f (ckP (rd rows (i : Int))) := by unfold wfitV; rw [if_pos hw]
        rw [w2, if_pos hw, Option.bind_some]
        simp only
        cases hfit : fit (f (ckP (rd rows (i : Int)))) with
        | false =>
          right
          rw [if_pos (by simp)]
          refine ⟨_, rfl, ?_⟩
          rw [hbad (by unfold fitsQ qfit; rw [hfit]; rfl)]; rfl
        | true =>
          have v1 : fitV (f (ckP (rd rows (i : Int)))) = f (ckP (rd rows (i : Int))) := by unfold fitV; rw [if_pos hfit]
          rw [if_neg (by simp), v1, Option.bind_some]
          by_cases hm : f (ckP (rd rows (i : Int))) = -9223372036854775808
          · right
            rw [if_pos (by rw [hm]; decide)]
            refine ⟨_, rfl, ?_⟩
            rw [hbad (by unfold fitsQ qfit; rw [hm]; decide)]; rfl
          · left
            have hq : fitsQ f (ckP (rd rows (i : Int))) = true := by unfold fitsQ qfit; rw [hfit, decide_eq_true hm]; rfl
            rw [if_neg (by simpa using hm)]
            by_cases hz : f (ckP (rd rows (i : Int))) = 0
            · rw [if_neg (fun h => h hz)]
              refine ⟨(out, i + 1), rfl, ⟨by simp only; omega, ?_, ?_⟩, by simp only; omega⟩
              · simp only
                rw [htake, hit, if_pos hz, List.append_nil]; exact h2
              · simp only
                rw [hall, h3]; exact hq
            · rw [if_pos hz, if_pos (by omega)]
              refine ⟨(out ++ [({ (rd rows (i : Int)) with Q := f (ckP (rd rows (i : Int))) } : api_Pos)], i + 1), rfl, ⟨by simp only; omega, ?_, ?_⟩, by simp only; omega⟩
              · simp only
                rw [htake, hit, if_neg hz, h2]
              · simp only
                rw [hall, h3]; exact hq
      · right
        have : i = rows.length := by omega
        subst this
        rw [List.take_length] at h2 h3
        refine ⟨.out (out, (rows.length : Int)), ?_, ?_⟩
        · show stock_Post.l3 e (rows, z) (q + 1) out (rows.length : Int) = _
          simp only [stock_Post.l3]; rw [if_neg (by omega)]
        · rw [if_pos h3, h2])
    (s0 := ([], 0)) ⟨Nat.zero_le _, by simp, by simp⟩ (by simp only; omega)
  obtain ⟨r, h1, h2⟩ := h
  rw [show ((0 : Nat) : Int) = 0 from rfl] at h1
  rw [h1, h2]
theorem ssum_none {e : List api_Shift} {c : Nat} (hk : shiftsOk e) (h : ¬ HasS e c) : ssum e ((c / 6 : Nat) : Int) ((c % 6 : Nat) : Int) = 0 := by
  unfold ssum
  have : e.filter (fun x => decide (x.Acc = ((c / 6 : Nat) : Int) ∧ x.Inst = ((c % 6 : Nat) : Int))) = [] := by
    rw [List.filter_eq_nil_iff]
    intro x hx hc
    have hc := of_decide_eq_true hc
    refine h ⟨x, hx, ?_⟩
    unfold ckS
    rw [hc.1, hc.2]
    omega
  rw [this]; rfl
theorem shifted_pos {l : List api_Pos} (hS : StockS l) {e : List api_Shift} (hk : shiftsOk e) {rows : List api_Pos} (hP : PutS l e e.length rows) :
    shiftedOf (newq l e) = if rows.all (fun x => fitsQ (newq l e) (ckP x)) = true then (rows.flatMap (fun x => posItem (newq l e) (ckP x)), true) else ([], false) := by
  have hno : ∀ c, 0 ≤ c → c < 0 + 150 → ¬ HasK ckP rows c → newq l e c = 0 := by
    intro c h1 h2 h3
    rw [hP.has, List.take_length, not_or] at h3
    unfold newq
    rw [ssum_none hk h3.2, heldO_val hS.key (by omega) (by omega) (by omega)]
    rw [show (((c / 6 : Nat) : Int) * 6 + ((c % 6 : Nat) : Int)).toNat = c by omega, valK_none h3.1]
    rfl
  have hfl := flat_keys (ck := ckP) (posItem (newq l e)) 150 0 rows hP.sort (fun x hx => by have := (posK_ck (hP.key x hx)).2; omega) (fun c h1 h2 h3 => by unfold posItem; rw [if_pos (hno c h1 h2 h3)])
  have hal : codesP.all (fitsQ (newq l e)) = rows.all (fun x => fitsQ (newq l e) (ckP x)) := by
    rw [Bool.eq_iff_iff, List.all_eq_true, List.all_eq_true]
    constructor
    · intro h x hx
      have := (posK_ck (hP.key x hx)).2
      exact h _ (List.mem_range'_1.2 (by omega))
    · intro h c hc
      have hc' := List.mem_range'_1.1 hc
      by_cases hh : HasK ckP rows c
      · obtain ⟨x, hx, rfl⟩ := hh
        exact h x hx
      · unfold fitsQ
        rw [hno c (by omega) (by omega) hh]
        decide
  unfold shiftedOf
  rw [hal, show codesP.flatMap (posItem (newq l e)) = _ from hfl]
theorem stock_Q_eq (q : Int) : stock_Quantity.f q = some (q != -9223372036854775808) := rfl
theorem spost_l0 {e : List api_Shift} (hel : e.length < 2 ^ 20) : stock_Post.l0 e FUEL 0 = some (if shiftsOk e then .out (e.length : Int) else .ret ([], 1)) := by
  have h := loop_inv (fun q (i : Nat) => stock_Post.l0 e q (i : Int)) (fun i => i ≤ e.length ∧ shiftsOk (e.take i)) (fun i => e.length - i) (fun r => r = if shiftsOk e then .out (e.length : Int) else .ret ([], 1))
    (fun q i hs => by
      obtain ⟨h1, h3⟩ := hs
      by_cases hi : i < e.length
      · have e1 := wsucc (i := i) (by omega)
        simp only [stock_Post.l0, e1, stock_key_eq, stock_Q_eq, Option.bind_some, decide_eq_true_eq]
        rw [if_pos (by omega), if_pos (by omega)]
        by_cases hk : shiftOk (rd e (i : Int))
        · left
          have hk' := hk
          unfold shiftOk posK at hk'
          rw [if_neg (fun h => h hk'.1), if_neg (by simpa using hk'.2)]
          exact ⟨i + 1, rfl, ⟨by omega, (shiftsOk_succ hi).2 ⟨h3, hk⟩⟩, by omega⟩
        · right
          have hno : ¬ shiftsOk e := fun h => hk (h _ (rd_mem hi))
          refine ⟨.ret ([], 1), ?_, by rw [if_neg hno]⟩
          unfold shiftOk posK at hk
          by_cases h1 : 0 ≤ (rd e (i : Int)).Acc ∧ (rd e (i : Int)).Acc ≤ 24 ∧ 0 ≤ (rd e (i : Int)).Inst ∧ (rd e (i : Int)).Inst < 6
          · rw [if_neg (fun h => h h1), if_pos (by
              have : (rd e (i : Int)).Q = -9223372036854775808 := Classical.byContradiction fun h => hk ⟨h1, h⟩
              rw [this]; decide)]
          · rw [if_pos h1]
      · right
        have : i = e.length := by omega
        subst this
        rw [List.take_length] at h3
        refine ⟨.out (e.length : Int), ?_, by rw [if_pos h3]⟩
        show stock_Post.l0 e (q + 1) (e.length : Int) = _
        simp only [stock_Post.l0]; rw [if_neg (by omega)])
    (s0 := 0) ⟨Nat.zero_le _, by intro x hx; simp at hx⟩ (by omega)
  obtain ⟨r, h1, h2⟩ := h
  rw [show ((0 : Nat) : Int) = 0 from rfl] at h1
  rw [h1, h2]
theorem ivals {e : List api_Shift} (he : ShiftI e) (j : Nat) : ∀ x ∈ (e.filter (fun x => decide (x.Inst = (j : Int)))).map (·.Q), I64 x := by
  intro x hx
  obtain ⟨y, hy, rfl⟩ := List.mem_map.1 hx
  exact he y (List.mem_filter.1 hy).1
theorem flat_l1 {e : List api_Shift} (he : ShiftI e) (hel : e.length < 2 ^ 20) (j : Nat) : stock_flat.l1 e (j : Int) FUEL [] 0 = some ((e.filter (fun x => decide (x.Inst = (j : Int)))).map (·.Q), (e.length : Int)) := by
  have h := loop_gather (fun k s i => stock_flat.l1 e (j : Int) k s i) e (fun x => if x.Inst = (j : Int) then [x.Q] else []) (fun k i s hi e' => ?_) (fun k s => ?_) (by omega)
  · rw [h, flatMap_if (fun x : api_Shift => x.Inst = (j : Int)) (·.Q) e]
  · have e1 := wsucc (i := i) (by omega)
    have hs : s.length ≤ i := by
      rw [e']
      have := flatMap_if_len (fun x : api_Shift => x.Inst = (j : Int)) (·.Q) (e.take i)
      rw [List.length_take] at this
      omega
    simp only [stock_flat.l1, e1]
    rw [if_pos (by omega), if_pos (by omega)]
    by_cases h : (rd e (i : Int)).Inst = (j : Int)
    · unfold wide_Of.f
      rw [if_pos h, if_pos h, if_pos (he _ (rd_mem hi)), Option.bind_some, if_pos (by omega)]
    · rw [if_neg h, if_neg h, List.append_nil]
  · simp only [stock_flat.l1]; rw [if_neg (by omega)]
theorem stock_flat_eq {e : List api_Shift} (he : ShiftI e) (hel : e.length < 2 ^ 20) : stock_flat.f e = some (decide (flatS e)) := by
  have hsum : ∀ j : Nat, wide_Sum.f ((e.filter (fun x => decide (x.Inst = (j : Int)))).map (·.Q)) = some (isum e j, true) := fun j => by
    have hv := ivals he j
    have hlen := List.length_filter_le (fun x : api_Shift => decide (x.Inst = (j : Int))) e
    have hw : Wid (isum e j) := (sum_wid hv (by rw [List.length_map]; omega)).1
    have w1 : wfit (isum e j) = true := decide_eq_true hw
    have w2 : wfitV (isum e j) = isum e j := by unfold wfitV; rw [if_pos hw]
    unfold wide_Sum.f
    rw [if_pos ⟨List.all_eq_true.2 fun x hx => decide_eq_true (wid_of_i64 (hv x hx)), by rw [List.length_map]; omega⟩, show ((e.filter (fun x => decide (x.Inst = (j : Int)))).map (·.Q)).sum = isum e j from rfl, w1, w2]
  have hwid : ∀ j : Nat, Wid (isum e j) := fun j => (sum_wid (ivals he j) (by rw [List.length_map]; have := List.length_filter_le (fun x : api_Shift => decide (x.Inst = (j : Int))) e; omega)).1
  unfold stock_flat.f
  rw [loop_allg (fun q i => stock_flat.l0 e q i) 6 (fun j => isum e j = 0) false (6 : Int) _ (fun q i hi hP => ?_) (fun q i hi hP => ?_) (fun q => ?_) (by omega)]
  · by_cases hf : flatS e
    · rw [if_pos (c := ∀ i : Nat, i < 6 → isum e i = 0) hf, decide_eq_true hf]
    · rw [if_neg (c := ∀ i : Nat, i < 6 → isum e i = 0) hf, decide_eq_false hf]
  · have e1 := wsucc (i := i) (by omega)
    simp only [stock_flat.l0, e1]
    rw [if_pos (by omega), flat_l1 he hel, Option.bind_some, hsum, Option.bind_some, if_neg (by simp)]
    unfold wide_Sign.f
    rw [Option.bind_some, if_neg (fun h => h (by rw [hP]; decide))]
  · have e1 := wsucc (i := i) (by omega)
    simp only [stock_flat.l0, e1]
    rw [if_pos (by omega), flat_l1 he hel, Option.bind_some, hsum, Option.bind_some, if_neg (by simp)]
    unfold wide_Sign.f
    rw [Option.bind_some, if_pos (by rw [cmpZ]; exact hP)]
  · simp only [stock_flat.l0]; rw [if_neg (by omega)]; rfl
theorem clone_pos {l : List api_Pos} (hl : l.length < 2 ^ 32) : slices_Clone_api_Pos.f l = some l := by
  unfold slices_Clone_api_Pos.f nilT
  rw [if_pos (c := l.length ≤ 100000000000) (by omega)]
  by_cases h : l = []
  · subst h; rfl
  · rw [if_neg h]
theorem clip_pos (l : List api_Pos) : slices_Clip_api_Pos.f l = some l := by
  unfold slices_Clip_api_Pos.f
  rw [if_pos ⟨by omega, by omega, by omega, by omega⟩, Int.toNat_natCast, List.take_length]
theorem shifted_len (f : Nat → Int) : (shiftedOf f).1.length ≤ 150 := by
  unfold shiftedOf
  split
  · have : ∀ (d c : Nat), ((List.range' c d).flatMap (posItem f)).length ≤ d := by
      intro d
      induction d with
      | zero => intro c; simp
      | succ d ih => intro c; rw [List.range'_succ, List.flatMap_cons, List.length_append]; have := ih (c + 1); have := posItem_len f c; omega
    exact this 150 0
  · simp
theorem spost_len (l : List api_Pos) (e : List api_Shift) : (postS l e).1.length ≤ 150 := by
  unfold postS
  split
  · simp
  · split
    · exact shifted_len _
    · simp
theorem stock_Post_eq {l : List api_Pos} (hI : PosI l) (hl : l.length < 2 ^ 20) {e : List api_Shift} (he : ShiftI e) (hel : e.length < 2 ^ 20) : stock_Post.f l e = some (postS l e) := by
  unfold stock_Post.f postS
  rw [stock_Right_eq l (by omega), Option.bind_some]
  by_cases hr : stockOk l = true
  · rw [if_neg (by simp [hr])]
    by_cases h400 : (e.length : Int) > 400
    · rw [if_pos h400, if_pos (.inr (.inl (by omega)))]
    · rw [if_neg h400, spost_l0 hel, Option.bind_some, flow_if]
      by_cases hk : shiftsOk e
      · rw [if_pos hk, stock_flat_eq he hel, Option.bind_some]
        have hS := stockOk_S.1 hr
        obtain ⟨rows, hrw, hP⟩ := spost_l1 hS hl hk hel
        have hlen := hP.len
        by_cases hf : flatS e
        · rw [if_neg (by simp [hf]), clone_pos (by omega), Option.bind_some, hrw, Option.bind_some]
          simp only
          rw [if_pos ⟨by omega, by omega⟩, spost_l3 hS hI he hel hP hl, Option.bind_some, flow_if, shifted_pos hS hk hP, if_neg (c := _ ∨ _) (by
            rintro (h | h | h | h)
            · exact h hr
            · omega
            · exact h hk
            · exact h hf)]
          cases hall : rows.all (fun x => fitsQ (newq l e) (ckP x)) with
          | false => rfl
          | true => simp only [if_true, clip_pos, Option.bind_some]
        · rw [if_pos (by simp [hf]), if_pos (.inr (.inr (.inr hf)))]
      · rw [if_neg hk, if_pos (.inr (.inr (.inl hk)))]
  · rw [if_pos hr, if_pos (.inl hr)]
theorem hStock_eq (l : List api_Pos) (hl : l.length < 2 ^ 59) : novationhelp_Stock.f l l = some true := by
  unfold novationhelp_Stock.f
  rw [if_neg (fun h => h rfl), loop_allg (fun k i => novationhelp_Stock.l0 l l k i) l.length (fun _ => True) false (l.length : Int) _ (fun k i hi _ => ?_) (fun k i hi hP => absurd trivial hP) (fun k => by simp only [novationhelp_Stock.l0]; rw [if_neg (by omega)]) hl, if_pos (fun _ _ => trivial)]
  simp only [novationhelp_Stock.l0, wsucc (i := i) (by omega)]
  rw [if_pos (by omega), if_pos (by omega), if_pos (by omega), if_neg (by simp)]
theorem shifts_true {l : List api_Pos} (hI : PosI l) (hl : l.length < 2 ^ 20) {e : List api_Shift} (he : ShiftI e) (hel : e.length < 2 ^ 20) : novationlaw13_posts.f l e = some true := by
  have := spost_len l e
  unfold novationlaw13_posts.f
  rw [stock_Post_eq hI hl he hel, rPostStock_eq hI (by omega) he (by omega), Option.bind_some, Option.bind_some, if_pos rfl, hStock_eq _ (by omega)]
  rfl
theorem stockPosts_true {l : List api_Pos} (hI : PosI l) {e : List api_Shift} (he : ShiftI e) : novationlaw13_StockPosts.f l e = some true := by
  unfold novationlaw13_StockPosts.f
  rw [stock_known, Option.bind_some, if_neg (by simp)]
  by_cases h160 : (l.length : Int) > 160
  · rw [if_pos h160]
  · rw [if_neg h160]
    by_cases h40 : (e.length : Int) > 40
    · rw [if_pos h40]
    · rw [if_neg h40, shifts_true hI (by omega) he (by omega)]
      rfl
end Go.Ax
