/- Loops of printed functions, in plain terms. -/
import Derived.Test.YtmpbhgofllbejaaGa
set_option linter.unusedVariables false
set_option linter.unusedSimpArgs false
set_option linter.unusedVariables false
set_option linter.unusedSimpArgs false
namespace Go.Ax
open Go
theorem wsucc {i : Nat} (h : i < 2 ^ 60) : IntKind.i64.wrap ((i : Int) + 1) = ((i + 1 : Nat) : Int) := by rw [i64_wrap _ (by omega) (by omega)]; omega
theorem wpred {i : Nat} (h : i < 2 ^ 60) : IntKind.i64.wrap ((i : Int) - 1) = (i : Int) - 1 := i64_wrap _ (by omega) (by omega)
theorem FUEL_big {n : Nat} (h : n < 2 ^ 59) : n < FUEL := by unfold FUEL; omega
theorem rd_nat {α : Type} [Inhabited α] (l : List α) (i : Nat) : rd l (i : Int) = l[i]?.getD default := by simp [rd]
theorem rd_get {α : Type} [Inhabited α] (l : List α) {i : Nat} (h : i < l.length) : rd l (i : Int) = l[i] := by simp [rd, h]
/-- A loop that tells r at the first bad place. -/
theorem loop_all {σ ρ : Type} (L : Nat → Int → Option (Flow σ ρ)) (n : Nat) (P : Nat → Bool) (r : ρ) (e : σ) (h0 : ∀ k (i : Nat), i < n → P i = true → L (k + 1) i = L k ((i + 1 : Nat) : Int))
    (h1 : ∀ k (i : Nat), i < n → P i = false → L (k + 1) i = some (.ret r)) (h2 : ∀ k, L (k + 1) (n : Int) = some (.out e)) (hn : n < 2 ^ 59) :
    L FUEL 0 = some (if (List.range n).all P = true then .out e else .ret r) := by
  have key : ∀ (d i k : Nat), i + d = n → d < k → L k (i : Int) = some (if (List.range' i d).all P = true then .out e else .ret r) := by
    intro d
    induction d with
    | zero =>
      intro i k hi hk
      obtain ⟨k, rfl⟩ : ∃ m, k = m + 1 := ⟨k - 1, by omega⟩
      have : i = n := by omega
      subst this
      rw [h2]; simp
    | succ d ih =>
      intro i k hi hk
      obtain ⟨k, rfl⟩ : ∃ m, k = m + 1 := ⟨k - 1, by omega⟩
      cases hp : P i with
      | true => rw [h0 k i (by omega) hp, ih (i + 1) k (by omega) (by omega), List.range'_succ, List.all_cons, hp, Bool.true_and]
      | false => rw [h1 k i (by omega) hp, List.range'_succ, List.all_cons, hp, Bool.false_and]; rfl
  have := key n 0 FUEL (by omega) (FUEL_big hn)
  rw [← List.range_eq_range'] at this
  exact this
/-- n steps. -/
def itr {σ : Type} (g : Nat → σ → σ) : Nat → σ → σ
  | 0, s => s
  | n + 1, s => g n (itr g n s)
/-- A loop that goes through to its end. -/
theorem loop_fold {σ R : Type} (L : Nat → Int → σ → Option R) (n : Nat) (g : Nat → σ → σ) (I : Nat → σ → Prop) (E : σ → R) (s0 : σ)
    (hs : ∀ k (i : Nat) s, i < n → I i s → L (k + 1) i s = L k ((i + 1 : Nat) : Int) (g i s) ∧ I (i + 1) (g i s)) (he : ∀ k s, I n s → L (k + 1) (n : Int) s = some (E s)) (h0 : I 0 s0) (hn : n < 2 ^ 59) :
    L FUEL 0 s0 = some (E (itr g n s0)) ∧ I n (itr g n s0) := by
  have inv : ∀ i, i ≤ n → I i (itr g i s0) := by
    intro i
    induction i with
    | zero => intro _; exact h0
    | succ i ih => intro hi; exact (hs 0 i _ (by omega) (ih (by omega))).2
  have key : ∀ (d i k : Nat), i + d = n → d < k → L k (i : Int) (itr g i s0) = some (E (itr g n s0)) := by
    intro d
    induction d with
    | zero =>
      intro i k hi hk
      obtain ⟨k, rfl⟩ : ∃ m, k = m + 1 := ⟨k - 1, by omega⟩
      have : i = n := by omega
      subst this
      exact he k _ (inv i (by omega))
    | succ d ih =>
      intro i k hi hk
      obtain ⟨k, rfl⟩ : ∃ m, k = m + 1 := ⟨k - 1, by omega⟩
      rw [(hs k i _ (by omega) (inv i (by omega))).1]
      exact ih (i + 1) k (by omega) (by omega)
  exact ⟨key n 0 FUEL (by omega) (FUEL_big hn), inv n (Nat.le_refl n)⟩
/-- A loop that goes through, or stops at some place with an answer. -/
theorem loop_find {σ ρ : Type} (L : Nat → Int → Option (Flow σ ρ)) (n : Nat) (P : Nat → Bool) (r : Nat → ρ) (e : σ) (h0 : ∀ k (i : Nat), i < n → P i = false → L (k + 1) i = L k ((i + 1 : Nat) : Int))
    (h1 : ∀ k (i : Nat), i < n → P i = true → L (k + 1) i = some (.ret (r i))) (h2 : ∀ k, L (k + 1) (n : Int) = some (.out e)) (hn : n < 2 ^ 59) :
    L FUEL 0 = some (match (List.range n).find? P with | some i => .ret (r i) | none => .out e) := by
  have key : ∀ (d i k : Nat), i + d = n → d < k → L k (i : Int) = some (match (List.range' i d).find? P with | some i => .ret (r i) | none => .out e) := by
    intro d
    induction d with
    | zero =>
      intro i k hi hk
      obtain ⟨k, rfl⟩ : ∃ m, k = m + 1 := ⟨k - 1, by omega⟩
      have : i = n := by omega
      subst this
      rw [h2]; simp
    | succ d ih =>
      intro i k hi hk
      obtain ⟨k, rfl⟩ : ∃ m, k = m + 1 := ⟨k - 1, by omega⟩
      cases hp : P i with
      | false => rw [h0 k i (by omega) hp, ih (i + 1) k (by omega) (by omega), List.range'_succ, List.find?_cons, hp]
      | true => rw [h1 k i (by omega) hp, List.range'_succ, List.find?_cons, hp]
  have := key n 0 FUEL (by omega) (FUEL_big hn)
  rw [← List.range_eq_range'] at this
  exact this
theorem flow_if {σ ρ : Type} (c : Prop) [Decidable c] (e : σ) (r : ρ) (k : σ → Option ρ) : ((if c then Flow.out e else Flow.ret r : Flow σ ρ).go k) = if c then k e else some r := by split <;> rfl
theorem ifr {α : Type} {c : Prop} [Decidable c] {A B r : α} (h1 : c → A = r) (h2 : ¬c → B = r) : (if c then A else B) = r := by
  by_cases h : c
  · rw [if_pos h]; exact h1 h
  · rw [if_neg h]; exact h2 h
theorem all_range_iff {n : Nat} {P : Nat → Bool} : (List.range n).all P = true ↔ ∀ i, i < n → P i = true := by simp [List.all_eq_true]
theorem bigOk_of {z : Int} (h : z.natAbs < 2 ^ 250) : BigOk z := by
  have : (2 : Nat) ^ 250 ≤ BB ^ 12 := by decide
  unfold BigOk; omega
end Go.Ax

/- What prices make of positions: the program's answers and the reference's are the same ones. -/
set_option linter.unusedVariables false
set_option linter.unusedSimpArgs false
set_option maxRecDepth 100000
set_option maxHeartbeats 4000000
namespace Go.Ax
open Go
theorem all_congr_prefix {n : Nat} {P Q : Nat → Bool} (h : ∀ i, i < n → (∀ j, j < i → P j = true) → P i = Q i) : (List.range n).all P = (List.range n).all Q := by
  induction n with
  | zero => rfl
  | succ n ih =>
    have ih := ih fun i hi hp => h i (by omega) hp
    rw [List.range_succ, List.all_append, List.all_append, ih]
    cases e : (List.range n).all Q with
    | false => rfl
    | true =>
      rw [e] at ih
      simp only [List.all_cons, List.all_nil, Bool.and_true, Bool.true_and]
      exact h n (by omega) fun j hj => all_range_iff.1 ih j hj
theorem stock_key_eq (a b : Int) : stock_key.f a b = some (decide (0 ≤ a ∧ a ≤ 24 ∧ 0 ≤ b ∧ b < 6)) := by
  unfold stock_key.f
  by_cases h1 : a ≥ 0 <;> by_cases h2 : a ≤ 24 <;> by_cases h3 : b ≥ 0 <;> simp [h1, h2, h3] <;> omega
def posBase (x : api_Pos) : Prop := 0 ≤ x.Acc ∧ x.Acc ≤ 24 ∧ 0 ≤ x.Inst ∧ x.Inst < 6 ∧ x.Q ≠ 0 ∧ x.Q ≠ -9223372036854775808
instance (x : api_Pos) : Decidable (posBase x) := by unfold posBase; infer_instance
def ordI (x p : api_Pos) : Int := if ¬(x.Acc = p.Acc) then IntKind.i64.wrap (x.Acc - p.Acc) else IntKind.i64.wrap (x.Inst - p.Inst)
theorem stock_order_eq (x p : api_Pos) : stock_order.f x.Acc x.Inst p = some (ordI x p) := by
  unfold stock_order.f ordI
  split <;> rfl
def posP (l : List api_Pos) (i : Nat) : Bool := decide (posBase (rd l (i : Int)) ∧ (0 < i → 0 < ordI (rd l (i : Int)) (rd l ((i : Int) - 1))))
def posQ (l : List api_Pos) (i : Nat) : Bool := decide (posBase (rd l (i : Int)) ∧ (0 < i → (rd l ((i : Int) - 1)).Acc < (rd l (i : Int)).Acc ∨ (rd l ((i : Int) - 1)).Acc = (rd l (i : Int)).Acc ∧ (rd l ((i : Int) - 1)).Inst < (rd l (i : Int)).Inst))
def stockOk (l : List api_Pos) : Bool := (List.range l.length).all (posQ l)
theorem posP_posQ (l : List api_Pos) : (List.range l.length).all (posP l) = stockOk l := by
  refine all_congr_prefix fun i hi hp => ?_
  unfold posP posQ
  by_cases hb : posBase (rd l (i : Int))
  · by_cases h0 : 0 < i
    · have hprev := hp (i - 1) (by omega)
      unfold posP at hprev
      have hprev := (of_decide_eq_true hprev).1
      rw [show ((i - 1 : Nat) : Int) = (i : Int) - 1 by omega] at hprev
      generalize rd l ((i : Int) - 1) = p at *
      generalize rd l (i : Int) = x at *
      have hb' := hb
      unfold posBase at hb' hprev
      have e1 : IntKind.i64.wrap (x.Acc - p.Acc) = x.Acc - p.Acc := i64_wrap _ (by omega) (by omega)
      have e2 : IntKind.i64.wrap (x.Inst - p.Inst) = x.Inst - p.Inst := i64_wrap _ (by omega) (by omega)
      simp only [hb, true_and, h0, forall_const, ordI, e1, e2]
      rw [decide_eq_decide]
      split <;> omega
    · simp [hb, h0]
  · simp [hb]
theorem stock_Right_eq (l : List api_Pos) (hl : l.length < 2 ^ 59) : stock_Right.f l = some (stockOk l) := by
  have h := loop_all (fun k i => stock_Right.l0 l k i) l.length (posP l) false (l.length : Int) (fun k i hi hp => ?_) (fun k i hi hp => ?_) (fun k => ?_) hl
  · unfold stock_Right.f
    rw [h, posP_posQ]
    simp only [Option.bind_some, flow_if]
    cases stockOk l <;> rfl
  · have e1 := wsucc (i := i) (by omega)
    have e2 := wpred (i := i) (by omega)
    unfold posP at hp
    obtain ⟨hb, ho⟩ := of_decide_eq_true hp
    unfold posBase at hb
    simp only [stock_Right.l0, stock_key_eq, stock_order_eq, stock_Quantity.f, Option.bind_some, e1, e2, decide_eq_true_eq, bne_iff_ne]
    rw [if_pos (by omega), if_pos (by omega), if_neg (by omega), if_neg (by omega), if_neg (by simp; omega)]
    by_cases h0 : 0 < i
    · rw [if_pos (by omega), if_pos (by omega), if_neg (by have := ho h0; omega)]
    · rw [if_neg (by omega)]
  · have e1 := wsucc (i := i) (by omega)
    have e2 := wpred (i := i) (by omega)
    unfold posP at hp
    have hp := of_decide_eq_false hp
    unfold posBase at hp
    simp only [stock_Right.l0, stock_key_eq, stock_order_eq, stock_Quantity.f, Option.bind_some, e1, e2, decide_eq_true_eq, bne_iff_ne]
    rw [if_pos (by omega), if_pos (by omega)]
    repeat' split
    all_goals first | rfl | (exfalso; simp only [ne_eq, Classical.not_not, gt_iff_lt] at *; omega)
  · simp only [stock_Right.l0]; rw [if_neg (by omega)]
theorem rStock_eq (l : List api_Pos) (hl : l.length < 2 ^ 59) : novationref10_Stock.f l = some (stockOk l) := by
  have h := loop_all (fun k i => novationref10_Stock.l0 l k i) l.length (posQ l) false (l.length : Int) (fun k i hi hp => ?_) (fun k i hi hp => ?_) (fun k => ?_) hl
  · unfold novationref10_Stock.f
    rw [h]
    simp only [Option.bind_some, flow_if]
    unfold stockOk
    cases (List.range l.length).all (posQ l) <;> rfl
  · have e1 := wsucc (i := i) (by omega)
    have e2 := wpred (i := i) (by omega)
    unfold posQ at hp
    obtain ⟨hb, ho⟩ := of_decide_eq_true hp
    unfold posBase at hb
    rw [novationref10_Stock.l0, e1, e2]
    rw [if_pos (by omega), if_pos (by omega)]
    repeat' split
    all_goals first | rfl | (exfalso; omega)
  · have e1 := wsucc (i := i) (by omega)
    have e2 := wpred (i := i) (by omega)
    unfold posQ at hp
    have hp := of_decide_eq_false hp
    unfold posBase at hp
    rw [novationref10_Stock.l0, e1, e2]
    rw [if_pos (by omega), if_pos (by omega)]
    repeat' split
    all_goals first | rfl | (exfalso; omega)
  · simp only [novationref10_Stock.l0]; rw [if_neg (by omega)]
def priceOk (p : Int) : Bool := decide (1 ≤ p ∧ p ≤ 1000000000000)
theorem mark_Price_eq (p : Int) : mark_Price.f p = some (priceOk p) := by
  unfold mark_Price.f priceOk
  by_cases h : p ≥ 1 <;> simp [h]
theorem rprice_eq (p : Int) : novationref15_price.f p = some (priceOk p) := by
  unfold novationref15_price.f priceOk
  by_cases h : p ≥ 1 <;> simp [h]
theorem mark_known : novationlaw15_known.f = some true := by decide +kernel
/-- An account's row. -/
def rowK (a : Int) : Int := if a = 0 then 2 else 5
def mkE (a x : Int) : api_Entry := ⟨rowK a, a, x⟩
def mkP (a x : Int) : novationref10_Part := ⟨rowK a, a, x⟩
theorem mark_entry_eq (a x : Int) : mark_entry.f a x = some (mkE a x) := by
  unfold mark_entry.f mkE rowK
  by_cases h : a = 0 <;> simp [h]
theorem rRow_eq (a : Int) : novationref15_Row.f a = some (rowK a, a) := by
  unfold novationref15_Row.f rowK
  by_cases h : a = 0 <;> simp [h]
/-- Who is moved, and by how much. -/
def flows (l : List api_Pos) (inst d : Int) (n : Nat) : List (Int × Int) := ((List.range n).filter fun j : Nat => decide ((rd l (j : Int)).Inst = inst ∧ d ≠ 0)).map fun j : Nat => ((rd l (j : Int)).Acc, (rd l (j : Int)).Q * d)
theorem flows_succ (l : List api_Pos) (inst d : Int) (n : Nat) : flows l inst d (n + 1) = flows l inst d n ++ (if (rd l (n : Int)).Inst = inst ∧ d ≠ 0 then [((rd l (n : Int)).Acc, (rd l (n : Int)).Q * d)] else []) := by
  unfold flows
  rw [List.range_succ, List.filter_append, List.map_append]
  congr 1
  by_cases h : (rd l (n : Int)).Inst = inst ∧ d ≠ 0
  · simp only [List.filter_cons, decide_eq_true_eq, List.filter_nil]
    rw [if_pos h, if_pos h]
    rfl
  · simp only [List.filter_cons, decide_eq_true_eq, List.filter_nil]
    rw [if_neg h, if_neg h]
    rfl
theorem flows_len (l : List api_Pos) (inst d : Int) (n : Nat) : (flows l inst d n).length ≤ n := by
  unfold flows
  rw [List.length_map]
  have := List.length_filter_le (fun j : Nat => decide ((rd l (j : Int)).Inst = inst ∧ d ≠ 0)) (List.range n)
  simpa using this
def PosI (l : List api_Pos) : Prop := ∀ i, i < l.length → I64 (rd l (i : Int)).Q
theorem priceOk_of {p : Int} (h : priceOk p = true) : 1 ≤ p ∧ p ≤ 1000000000000 := of_decide_eq_true h
theorem mark_Flows_eq {l : List api_Pos} (inst old now : Int) (hl : l.length < 2 ^ 32) (hI : PosI l) :
    mark_Flows.f l inst old now = some (if (stockOk l && (priceOk old && priceOk now)) = true then ((flows l inst (now - old) l.length).map fun x => mkE x.1 x.2, 0) else ([], 1)) := by
  unfold mark_Flows.f
  rw [stock_Right_eq l (by omega)]
  simp only [mark_Price_eq, Option.bind_some]
  cases h1 : stockOk l <;> simp only [Bool.false_eq_true, not_false_eq_true, not_true_eq_false, if_true, if_false, Bool.false_and, Bool.true_and]
  cases h2 : priceOk old <;> simp only [Bool.false_eq_true, not_false_eq_true, not_true_eq_false, if_true, if_false, Bool.false_and, Bool.true_and]
  cases h3 : priceOk now <;> simp only [Bool.false_eq_true, not_false_eq_true, not_true_eq_false, if_true, if_false, Bool.false_and, Bool.true_and]
  have p1 := priceOk_of h2
  have p2 := priceOk_of h3
  have e3 : IntKind.i64.wrap (now - old) = now - old := i64_wrap _ (by omega) (by omega)
  have := (loop_fold (fun k i s => mark_Flows.l0 l inst old now k s i) l.length (fun i s => s ++ (if (rd l (i : Int)).Inst = inst ∧ now - old ≠ 0 then [mkE (rd l (i : Int)).Acc ((rd l (i : Int)).Q * (now - old))] else [])) (fun i s => s = (flows l inst (now - old) i).map fun x => mkE x.1 x.2) (fun s => (s, (l.length : Int))) []
    (fun k i s hi hs => ?_) (fun k s hs => ?_) rfl (by omega))
  · obtain ⟨e1, e2⟩ := this
    rw [e2] at e1
    rw [e1]
    rfl
  · have e1 := wsucc (i := i) (by omega)
    have hq := hI i hi
    have hlen := flows_len l inst (now - old) i
    refine ⟨?_, by
      rw [hs, flows_succ, List.map_append]
      congr 1
      split <;> rfl⟩
    rw [mark_Flows.l0, e1, if_pos (by omega), if_pos (by omega)]
    by_cases c1 : (rd l (i : Int)).Inst = inst
    · rw [if_pos c1]
      by_cases c2 : now = old
      · rw [if_neg (by simp [c2]), if_neg (by omega), List.append_nil]
      · rw [if_pos c2, if_pos ⟨c1, by omega⟩, e3]
        unfold wide_Mul.f
        rw [if_pos ⟨hq, by simp only [I64]; omega⟩, Option.bind_some, mark_entry_eq, Option.bind_some, if_pos (by rw [hs, List.length_map]; omega)]
    · rw [if_neg c1, if_neg (fun h => c1 h.1), List.append_nil]
  · rw [mark_Flows.l0, if_neg (by omega)]
theorem rFlows_eq {l : List api_Pos} (inst old now : Int) (hl : l.length < 2 ^ 32) (hI : PosI l) :
    novationref15_Flows.f l inst old now = some (if (stockOk l && (priceOk old && priceOk now)) = true then ((flows l inst (now - old) l.length).map fun x => mkP x.1 x.2, 0) else ([], 1)) := by
  unfold novationref15_Flows.f
  rw [rStock_eq l (by omega)]
  simp only [rprice_eq, Option.bind_some]
  cases h1 : stockOk l <;> simp only [Bool.false_eq_true, not_false_eq_true, not_true_eq_false, if_true, if_false, Bool.false_and, Bool.true_and]
  cases h2 : priceOk old <;> simp only [Bool.false_eq_true, not_false_eq_true, not_true_eq_false, if_true, if_false, Bool.false_and, Bool.true_and]
  cases h3 : priceOk now <;> simp only [Bool.false_eq_true, not_false_eq_true, not_true_eq_false, if_true, if_false, Bool.false_and, Bool.true_and]
  have p1 := priceOk_of h2
  have p2 := priceOk_of h3
  have b1 : BigOk now := bigOk_of (by omega)
  have b2 : BigOk old := bigOk_of (by omega)
  have b3 : BigOk (now - old) := bigOk_of (by omega)
  have i1 : I64 now := by simp only [I64]; omega
  have i2 : I64 old := by simp only [I64]; omega
  simp only [novationref1_Whole.f, novationref1_Less.f, if_pos i1, if_pos i2, Option.bind_some, if_pos (And.intro b1 b2)]
  have := (loop_fold (fun k i s => novationref15_Flows.l0 l inst (now - old) k s i) l.length (fun i s => s ++ (if (rd l (i : Int)).Inst = inst ∧ now - old ≠ 0 then [mkP (rd l (i : Int)).Acc ((rd l (i : Int)).Q * (now - old))] else [])) (fun i s => s = (flows l inst (now - old) i).map fun x => mkP x.1 x.2) (fun s => (s, (l.length : Int))) []
    (fun k i s hi hs => ?_) (fun k s hs => ?_) rfl (by omega))
  · obtain ⟨e1, e2⟩ := this
    rw [e2] at e1
    rw [e1]
    rfl
  · have e1 := wsucc (i := i) (by omega)
    have hq := hI i hi
    have bq : BigOk (rd l (i : Int)).Q := bigOk_of (by simp only [I64] at hq; omega)
    have hlen := flows_len l inst (now - old) i
    refine ⟨?_, by
      rw [hs, flows_succ, List.map_append]
      congr 1
      split <;> rfl⟩
    rw [novationref15_Flows.l0, e1, if_pos (by omega), if_pos (by omega)]
    by_cases c1 : (rd l (i : Int)).Inst = inst
    · rw [if_neg (not_not_intro c1)]
      simp only [novationref1_Sign.f, if_pos b3, Option.bind_some]
      by_cases c2 : now = old
      · rw [if_pos (by simp [c2, cmpI]), if_neg (by omega), List.append_nil]
      · rw [if_neg (by unfold cmpI; split <;> (try split) <;> omega), if_pos ⟨c1, by omega⟩, rRow_eq, Option.bind_some]
        simp only [novationref1_Whole.f, novationref1_Times.f, if_pos hq, Option.bind_some, if_pos (And.intro bq b3)]
        rw [if_pos (by rw [hs, List.length_map]; omega)]
        rfl
    · rw [if_pos c1, if_neg (fun h => c1 h.1), List.append_nil]
  · rw [novationref15_Flows.l0, if_neg (by omega)]
theorem rd_map {α β : Type} [Inhabited α] [Inhabited β] (f : α → β) (l : List α) {i : Nat} (h : i < l.length) : rd (l.map f) (i : Int) = f (rd l (i : Int)) := by
  rw [rd_get _ (by simpa using h), rd_get _ h, List.getElem_map]
theorem hEntries_eq (l : List (Int × Int)) (hl : l.length < 2 ^ 59) (hw : ∀ x ∈ l, Wid x.2 ∧ BigOk x.2) : novationhelp_Entries.f (l.map fun x => mkE x.1 x.2) (l.map fun x => mkP x.1 x.2) = some true := by
  unfold novationhelp_Entries.f
  rw [if_neg (by simp)]
  have h := loop_all (fun k i => novationhelp_Entries.l0 (l.map fun x => mkE x.1 x.2) (l.map fun x => mkP x.1 x.2) k i) l.length (fun _ => true) false (l.length : Int) (fun k i hi hp => ?_) (fun k i hi hp => by cases hp) (fun k => ?_) hl
  · rw [h]
    simp [Flow.go]
  · have e1 := wsucc (i := i) (by omega)
    have hx := hw (rd l (i : Int)) (by rw [rd_get l hi]; exact List.getElem_mem _)
    have a1 : ((l.map fun x => mkE x.1 x.2).length : Int) = (l.length : Int) := by simp
    have a2 : ((l.map fun x => mkP x.1 x.2).length : Int) = (l.length : Int) := by simp
    rw [novationhelp_Entries.l0, e1, a1, a2, if_pos (by omega), if_pos (by omega), if_pos (by omega), rd_map _ l hi, rd_map _ l hi]
    simp only [mkE, mkP, not_true_eq_false, if_false, novationhelp_Wide.f]
    rw [if_pos hx]
    simp
  · rw [novationhelp_Entries.l0, if_neg (by simp)]
theorem markFlows_true {l : List api_Pos} (inst old now : Int) (hl : l.length < 281474976710656) (hI : PosI l) : novationlaw15_MarkFlows.f l inst old now = some true := by
  unfold novationlaw15_MarkFlows.f
  rw [mark_known, Option.bind_some, if_neg (by simp)]
  by_cases h : (l.length : Int) > 160
  · rw [if_pos h]
  · rw [if_neg h, mark_Flows_eq inst old now (by omega) hI, Option.bind_some, rFlows_eq inst old now (by omega) hI, Option.bind_some]
    by_cases c : (stockOk l && (priceOk old && priceOk now)) = true
    · rw [if_pos c, if_pos c]
      have c' := c
      rw [Bool.and_eq_true, Bool.and_eq_true] at c'
      have p1 := priceOk_of c'.2.1
      have p2 := priceOk_of c'.2.2
      have hlen := flows_len l inst (now - old) l.length
      rw [if_pos rfl, hEntries_eq _ (by omega) (fun x hx => ?_)]
      · rfl
      · unfold flows at hx
        obtain ⟨j, hj, rfl⟩ := List.mem_map.1 hx
        have hj := (List.mem_filter.1 hj).1
        have hq := hI j (by simpa using hj)
        simp only [I64] at hq
        have hb : ((rd l (j : Int)).Q * (now - old)).natAbs ≤ 9223372036854775808 * 1000000000000 := by
          rw [Int.natAbs_mul]
          exact Nat.mul_le_mul (by omega) (by omega)
        exact ⟨by simp only [Wid]; omega, bigOk_of (by omega)⟩
    · rw [if_neg c, if_neg c, if_pos rfl]
      rfl
end Go.Ax
