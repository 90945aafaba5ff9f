/- Loops of printed functions, in plain terms. -/
import Derived.Test.YtmpbhgofllbejaaGa
set_option linter.unusedVariables false
set_option linter.unusedSimpArgs false
set_option linter.unusedVariables false
set_option linter.unusedSimpArgs false
namespace Go.Ax
open Go
theorem wsucc {i : Nat} (h : i < 2 ^ 60) : IntKind.i64.wrap ((i : Int) + 1) = ((i + 1 : Nat) : Int) := by rw [i64_wrap _ (by omega) (by omega)]; omega
theorem wpred {i : Nat} (h : i < 2 ^ 60) : IntKind.i64.wrap ((i : Int) - 1) = (i : Int) - 1 := i64_wrap _ (by omega) (by omega)
theorem FUEL_big {n : Nat} (h : n < 2 ^ 59) : n < FUEL := by unfold FUEL; omega
theorem rd_nat {α : Type} [Inhabited α] (l : List α) (i : Nat) : rd l (i : Int) = l[i]?.getD default := by simp [rd]
theorem rd_get {α : Type} [Inhabited α] (l : List α) {i : Nat} (h : i < l.length) : rd l (i : Int) = l[i] := by simp [rd, h]
/-- A loop that tells r at the first bad place. -/
theorem loop_all {σ ρ : Type} (L : Nat → Int → Option (Flow σ ρ)) (n : Nat) (P : Nat → Bool) (r : ρ) (e : σ) (h0 : ∀ k (i : Nat), i < n → P i = true → L (k + 1) i = L k ((i + 1 : Nat) : Int))
    (h1 : ∀ k (i : Nat), i < n → P i = false → L (k + 1) i = some (.ret r)) (h2 : ∀ k, L (k + 1) (n : Int) = some (.out e)) (hn : n < 2 ^ 59) :
    L FUEL 0 = some (if (List.range n).all P = true then .out e else .ret r) := by
  have key : ∀ (d i k : Nat), i + d = n → d < k → L k (i : Int) = some (if (List.range' i d).all P = true then .out e else .ret r) := by
    intro d
    induction d with
    | zero =>
      intro i k hi hk
      obtain ⟨k, rfl⟩ : ∃ m, k = m + 1 := ⟨k - 1, by omega⟩
      have : i = n := by omega
      subst this
      rw [h2]; simp
    | succ d ih =>
      intro i k hi hk
      obtain ⟨k, rfl⟩ : ∃ m, k = m + 1 := ⟨k - 1, by omega⟩
      cases hp : P i with
      | true => rw [h0 k i (by omega) hp, ih (i + 1) k (by omega) (by omega), List.range'_succ, List.all_cons, hp, Bool.true_and]
      | false => rw [h1 k i (by omega) hp, List.range'_succ, List.all_cons, hp, Bool.false_and]; rfl
  have := key n 0 FUEL (by omega) (FUEL_big hn)
  rw [← List.range_eq_range'] at this
  exact this
/-- n steps. -/
def itr {σ : Type} (g : Nat → σ → σ) : Nat → σ → σ
  | 0, s => s
  | n + 1, s => g n (itr g n s)
/-- A loop that goes through to its end. -/
theorem loop_fold {σ R : Type} (L : Nat → Int → σ → Option R) (n : Nat) (g : Nat → σ → σ) (I : Nat → σ → Prop) (E : σ → R) (s0 : σ)
    (hs : ∀ k (i : Nat) s, i < n → I i s → L (k + 1) i s = L k ((i + 1 : Nat) : Int) (g i s) ∧ I (i + 1) (g i s)) (he : ∀ k s, I n s → L (k + 1) (n : Int) s = some (E s)) (h0 : I 0 s0) (hn : n < 2 ^ 59) :
    L FUEL 0 s0 = some (E (itr g n s0)) ∧ I n (itr g n s0) := by
  have inv : ∀ i, i ≤ n → I i (itr g i s0) := by
    intro i
    induction i with
    | zero => intro _; exact h0
    | succ i ih => intro hi; exact (hs 0 i _ (by omega) (ih (by omega))).2
  have key : ∀ (d i k : Nat), i + d = n → d < k → L k (i : Int) (itr g i s0) = some (E (itr g n s0)) := by
    intro d
    induction d with
    | zero =>
      intro i k hi hk
      obtain ⟨k, rfl⟩ : ∃ m, k = m + 1 := ⟨k - 1, by omega⟩
      have : i = n := by omega
      subst this
      exact he k _ (inv i (by omega))
    | succ d ih =>
      intro i k hi hk
      obtain ⟨k, rfl⟩ : ∃ m, k = m + 1 := ⟨k - 1, by omega⟩
      rw [(hs k i _ (by omega) (inv i (by omega))).1]
      exact ih (i + 1) k (by omega) (by omega)
  exact ⟨key n 0 FUEL (by omega) (FUEL_big hn), inv n (Nat.le_refl n)⟩
/-- A loop that goes through, or stops at some place with an answer. -/
theorem loop_find {σ ρ : Type} (L : Nat → Int → Option (Flow σ ρ)) (n : Nat) (P : Nat → Bool) (r : Nat → ρ) (e : σ) (h0 : ∀ k (i : Nat), i < n → P i = false → L (k + 1) i = L k ((i + 1 : Nat) : Int))
    (h1 : ∀ k (i : Nat), i < n → P i = true → L (k + 1) i = some (.ret (r i))) (h2 : ∀ k, L (k + 1) (n : Int) = some (.out e)) (hn : n < 2 ^ 59) :
    L FUEL 0 = some (match (List.range n).find? P with | some i => .ret (r i) | none => .out e) := by
  have key : ∀ (d i k : Nat), i + d = n → d < k → L k (i : Int) = some (match (List.range' i d).find? P with | some i => .ret (r i) | none => .out e) := by
    intro d
    induction d with
    | zero =>
      intro i k hi hk
      obtain ⟨k, rfl⟩ : ∃ m, k = m + 1 := ⟨k - 1, by omega⟩
      have : i = n := by omega
      subst this
      rw [h2]; simp
    | succ d ih =>
      intro i k hi hk
      obtain ⟨k, rfl⟩ : ∃ m, k = m + 1 := ⟨k - 1, by omega⟩
      cases hp : P i with
      | false => rw [h0 k i (by omega) hp, ih (i + 1) k (by omega) (by omega), List.range'_succ, List.find?_cons, hp]
      | true => rw [h1 k i (by omega) hp, List.range'_succ, List.find?_cons, hp]
  have := key n 0 FUEL (by omega) (FUEL_big hn)
  rw [← List.range_eq_range'] at this
  exact this
theorem flow_if {σ ρ : Type} (c : Prop) [Decidable c] (e : σ) (r : ρ) (k : σ → Option ρ) : ((if c then Flow.out e else Flow.ret r : Flow σ ρ).go k) = if c then k e else some r := by split <;> rfl
theorem ifr {α : Type} {c : Prop} [Decidable c] {A B r : α} (h1 : c → A = r) (h2 : ¬c → B = r) : (if c then A else B) = r := by
  by_cases h : c
  · rw [if_pos h]; exact h1 h
  · rw [if_neg h]; exact h2 h
theorem all_range_iff {n : Nat} {P : Nat → Bool} : (List.range n).all P = true ↔ ∀ i, i < n → P i = true := by simp [List.all_eq_true]
theorem bigOk_of {z : Int} (h : z.natAbs < 2 ^ 250) : BigOk z := by
  have : (2 : Nat) ^ 250 ≤ BB ^ 12 := by decide
  unfold BigOk; omega
end Go.Ax

/- What prices make of positions: the program's answers and the reference's are the same ones. -/
set_option linter.unusedVariables false
set_option linter.unusedSimpArgs false
set_option maxRecDepth 100000
set_option maxHeartbeats 4000000
namespace Go.Ax
open Go
theorem all_congr_prefix {n : Nat} {P Q : Nat → Bool} (h : ∀ i, i < n → (∀ j, j < i → P j = true) → P i = Q i) : (List.range n).all P = (List.range n).all Q := by
  induction n with
  | zero => rfl
  | succ n ih =>
    have ih := ih fun i hi hp => h i (by omega) hp
    rw [List.range_succ, List.all_append, List.all_append, ih]
    cases e : (List.range n).all Q with
    | false => rfl
    | true =>
      rw [e] at ih
      simp only [List.all_cons, List.all_nil, Bool.and_true, Bool.true_and]
      exact h n (by omega) fun j hj => all_range_iff.1 ih j hj
theorem stock_key_eq (a b : Int) : stock_key.f a b = some (decide (0 ≤ a ∧ a ≤ 24 ∧ 0 ≤ b ∧ b < 6)) := by
  unfold stock_key.f
  by_cases h1 : a ≥ 0 <;> by_cases h2 : a ≤ 24 <;> by_cases h3 : b ≥ 0 <;> simp [h1, h2, h3] <;> omega
def posBase (x : api_Pos) : Prop := 0 ≤ x.Acc ∧ x.Acc ≤ 24 ∧ 0 ≤ x.Inst ∧ x.Inst < 6 ∧ x.Q ≠ 0 ∧ x.Q ≠ -9223372036854775808
instance (x : api_Pos) : Decidable (posBase x) := by unfold posBase; infer_instance
def ordI (x p : api_Pos) : Int := if ¬(x.Acc = p.Acc) then IntKind.i64.wrap (x.Acc - p.Acc) else IntKind.i64.wrap (x.Inst - p.Inst)
theorem stock_order_eq (x p : api_Pos) : stock_order.f x.Acc x.Inst p = some (ordI x p) := by
  unfold stock_order.f ordI
  split <;> rfl
def posP (l : List api_Pos) (i : Nat) : Bool := decide (posBase (rd l (i : Int)) ∧ (0 < i → 0 < ordI (rd l (i : Int)) (rd l ((i : Int) - 1))))
def posQ (l : List api_Pos) (i : Nat) : Bool := decide (posBase (rd l (i : Int)) ∧ (0 < i → (rd l ((i : Int) - 1)).Acc < (rd l (i : Int)).Acc ∨ (rd l ((i : Int) - 1)).Acc = (rd l (i : Int)).Acc ∧ (rd l ((i : Int) - 1)).Inst < (rd l (i : Int)).Inst))
def stockOk (l : List api_Pos) : Bool := (List.range l.length).all (posQ l)
theorem posP_posQ (l : List api_Pos) : (List.range l.length).all (posP l) = stockOk l := by
  refine all_congr_prefix fun i hi hp => ?_
  unfold posP posQ
  by_cases hb : posBase (rd l (i : Int))
  · by_cases h0 : 0 < i
    · have hprev := hp (i - 1) (by omega)
      unfold posP at hprev
      have hprev := (of_decide_eq_true hprev).1
      rw [show ((i - 1 : Nat) : Int) = (i : Int) - 1 by omega] at hprev
      generalize rd l ((i : Int) - 1) = p at *
      generalize rd l (i : Int) = x at *
      have hb' := hb
      unfold posBase at hb' hprev
      have e1 : IntKind.i64.wrap (x.Acc - p.Acc) = x.Acc - p.Acc := i64_wrap _ (by omega) (by omega)
      have e2 : IntKind.i64.wrap (x.Inst - p.Inst) = x.Inst - p.Inst := i64_wrap _ (by omega) (by omega)
      simp only [hb, true_and, h0, forall_const, ordI, e1, e2]
      rw [decide_eq_decide]
      split <;> omega
    · simp [hb, h0]
  · simp [hb]
theorem stock_Right_eq (l : List api_Pos) (hl : l.length < 2 ^ 59) : stock_Right.f l = some (stockOk l) := by
  have h := loop_all (fun k i => stock_Right.l0 l k i) l.length (posP l) false (l.length : Int) (fun k i hi hp => ?_) (fun k i hi hp => ?_) (fun k => ?_) hl
  · unfold stock_Right.f
    rw [h, posP_posQ]
    simp only [Option.bind_some, flow_if]
    cases stockOk l <;> rfl
  · have e1 := wsucc (i := i) (by omega)
    have e2 := wpred (i := i) (by omega)
    unfold posP at hp
    obtain ⟨hb, ho⟩ := of_decide_eq_true hp
    unfold posBase at hb
    simp only [stock_Right.l0, stock_key_eq, stock_order_eq, stock_Quantity.f, Option.bind_some, e1, e2, decide_eq_true_eq, bne_iff_ne]
    rw [if_pos (by omega), if_pos (by omega), if_neg (by omega), if_neg (by omega), if_neg (by simp; omega)]
    by_cases h0 : 0 < i
    · rw [if_pos (by omega), if_pos (by omega), if_neg (by have := ho h0; omega)]
    · rw [if_neg (by omega)]
  · have e1 := wsucc (i := i) (by omega)
    have e2 := wpred (i := i) (by omega)
    unfold posP at hp
    have hp := of_decide_eq_false hp
    unfold posBase at hp
    simp only [stock_Right.l0, stock_key_eq, stock_order_eq, stock_Quantity.f, Option.bind_some, e1, e2, decide_eq_true_eq, bne_iff_ne]
    rw [if_pos (by omega), if_pos (by omega)]
    repeat' split
    all_goals first | rfl | (exfalso; simp only [ne_eq, Classical.not_not, gt_iff_lt] at *; omega)
  · simp only [stock_Right.l0]; rw [if_neg (by omega)]
theorem rStock_eq (l : List api_Pos) (hl : l.length < 2 ^ 59) : novationref10_Stock.f l = some (stockOk l) := by
  have h := loop_all (fun k i => novationref10_Stock.l0 l k i) l.length (posQ l) false (l.length : Int) (fun k i hi hp => ?_) (fun k i hi hp => ?_) (fun k => ?_) hl
  · unfold novationref10_Stock.f
    rw [h]
    simp only [Option.bind_some, flow_if]
    unfold stockOk
    cases (List.range l.length).all (posQ l) <;> rfl
  · have e1 := wsucc (i := i) (by omega)
    have e2 := wpred (i := i) (by omega)
    unfold posQ at hp
    obtain ⟨hb, ho⟩ := of_decide_eq_true hp
    unfold posBase at hb
    rw [novationref10_Stock.l0, e1, e2]
    rw [if_pos (by omega), if_pos (by omega)]
    repeat' split
    all_goals first | rfl | (exfalso; omega)
  · have e1 := wsucc (i := i) (by omega)
    have e2 := wpred (i := i) (by omega)
    unfold posQ at hp
    have hp := of_decide_eq_false hp
    unfold posBase at hp
    rw [novationref10_Stock.l0, e1, e2]
    rw [if_pos (by omega), if_pos (by omega)]
    repeat' split
    all_goals first | rfl | (exfalso; omega)
  · simp only [novationref10_Stock.l0]; rw [if_neg (by omega)]
def priceOk (p : Int) : Bool := decide (1 ≤ p ∧ p ≤ 1000000000000)
theorem mark_Price_eq (p : Int) : mark_Price.f p = some (priceOk p) := by
  unfold mark_Price.f priceOk
  by_cases h : p ≥ 1 <;> simp [h]
theorem rprice_eq (p : Int) : novationref15_price.f p = some (priceOk p) := by
  unfold novationref15_price.f priceOk
  by_cases h : p ≥ 1 <;> simp [h]
theorem mark_known : novationlaw15_known.f = some true := by decide +kernel
/-- An account's row. -/
def rowK (a : Int) : Int := if a = 0 then 2 else 5
def mkE (a x : Int) : api_Entry := ⟨rowK a, a, x⟩
def mkP (a x : Int) : novationref10_Part := ⟨rowK a, a, x⟩
theorem mark_entry_eq (a x : Int) : mark_entry.f a x = some (mkE a x) := by
  unfold mark_entry.f mkE rowK
  by_cases h : a = 0 <;> simp [h]
theorem rRow_eq (a : Int) : novationref15_Row.f a = some (rowK a, a) := by
  unfold novationref15_Row.f rowK
  by_cases h : a = 0 <;> simp [h]
/-- Who is moved, and by how much. -/
def flows (l : List api_Pos) (inst d : Int) (n : Nat) : List (Int × Int) := ((List.range n).filter fun j : Nat => decide ((rd l (j : Int)).Inst = inst ∧ d ≠ 0)).map fun j : Nat => ((rd l (j : Int)).Acc, (rd l (j : Int)).Q * d)
theorem flows_succ (l : List api_Pos) (inst d : Int) (n : Nat) : flows l inst d (n + 1) = flows l inst d n ++ (if (rd l (n : Int)).Inst = inst ∧ d ≠ 0 then [((rd l (n : Int)).Acc, (rd l (n : Int)).Q * d)] else []) := by
  unfold flows
  rw [List.range_succ, List.filter_append, List.map_append]
  congr 1
  by_cases h : (rd l (n : Int)).Inst = inst ∧ d ≠ 0
  · simp only [List.filter_cons, decide_eq_true_eq, List.filter_nil]
    rw [if_pos h, if_pos h]
    rfl
  · simp only [List.filter_cons, decide_eq_true_eq, List.filter_nil]
    rw [if_neg h, if_neg h]
    rfl
theorem flows_len (l : List api_Pos) (inst d : Int) (n : Nat) : (flows l inst d n).length ≤ n := by
  unfold flows
  rw [List.length_map]
  have := List.length_filter_le (fun j : Nat => decide ((rd l (j : Int)).Inst = inst ∧ d ≠ 0)) (List.range n)
  simpa using this
def PosI (l : List api_Pos) : Prop := ∀ i, i < l.length → I64 (rd l (i : Int)).Q
theorem priceOk_of {p : Int} (h : priceOk p = true) : 1 ≤ p ∧ p ≤ 1000000000000 := of_decide_eq_true h
theorem mark_Flows_eq {l : List api_Pos} (inst old now : Int) (hl : l.length < 2 ^ 32) (hI : PosI l) :
    mark_Flows.f l inst old now = some (if (stockOk l && (priceOk old && priceOk now)) = true then ((flows l inst (now - old) l.length).map fun x => mkE x.1 x.2, 0) else ([], 1)) := by
  unfold mark_Flows.f
  rw [stock_Right_eq l (by omega)]
  simp only [mark_Price_eq, Option.bind_some]
  cases h1 : stockOk l <;> simp only [Bool.false_eq_true, not_false_eq_true, not_true_eq_false, if_true, if_false, Bool.false_and, Bool.true_and]
  cases h2 : priceOk old <;> simp only [Bool.false_eq_true, not_false_eq_true, not_true_eq_false, if_true, if_false, Bool.false_and, Bool.true_and]
  cases h3 : priceOk now <;> simp only [Bool.false_eq_true, not_false_eq_true, not_true_eq_false, if_true, if_false, Bool.false_and, Bool.true_and]
  have p1 := priceOk_of h2
  have p2 := priceOk_of h3
  have e3 : IntKind.i64.wrap (now - old) = now - old := i64_wrap _ (by omega) (by omega)
  have := (loop_fold (fun k i s => mark_Flows.l0 l inst old now k s i) l.length (fun i s => s ++ (if (rd l (i : Int)).Inst = inst ∧ now - old ≠ 0 then [mkE (rd l (i : Int)).Acc ((rd l (i : Int)).Q * (now - old))] else [])) (fun i s => s = (flows l inst (now - old) i).map fun x => mkE x.1 x.2) (fun s => (s, (l.length : Int))) []
    (fun k i s hi hs => ?_) (fun k s hs => ?_) rfl (by omega))
  · obtain ⟨e1, e2⟩ := this
    rw [e2] at e1
    rw [e1]
    rfl
  · have e1 := wsucc (i := i) (by omega)
    have hq := hI i hi
    have hlen := flows_len l inst (now - old) i
    refine ⟨?_, by
      rw [hs, flows_succ, List.map_append]
      congr 1
      split <;> rfl⟩
    rw [mark_Flows.l0, e1, if_pos (by omega), if_pos (by omega)]
    by_cases c1 : (rd l (i : Int)).Inst = inst
    · rw [if_pos c1]
      by_cases c2 : now = old
      · rw [if_neg (by simp [c2]), if_neg (by omega), List.append_nil]
      · rw [if_pos c2, if_pos ⟨c1, by omega⟩, e3]
        unfold wide_Mul.f
        rw [if_pos ⟨hq, by simp only [I64]; omega⟩, Option.bind_some, mark_entry_eq, Option.bind_some, if_pos (by rw [hs, List.length_map]; omega)]
    · rw [if_neg c1, if_neg (fun h => c1 h.1), List.append_nil]
  · rw [mark_Flows.l0, if_neg (by omega)]
theorem rFlows_eq {l : List api_Pos} (inst old now : Int) (hl : l.length < 2 ^ 32) (hI : PosI l) :
    novationref15_Flows.f l inst old now = some (if (stockOk l && (priceOk old && priceOk now)) = true then ((flows l inst (now - old) l.length).map fun x => mkP x.1 x.2, 0) else ([], 1)) := by
  unfold novationref15_Flows.f
  rw [rStock_eq l (by omega)]
  simp only [rprice_eq, Option.bind_some]
  cases h1 : stockOk l <;> simp only [Bool.false_eq_true, not_false_eq_true, not_true_eq_false, if_true, if_false, Bool.false_and, Bool.true_and]
  cases h2 : priceOk old <;> simp only [Bool.false_eq_true, not_false_eq_true, not_true_eq_false, if_true, if_false, Bool.false_and, Bool.true_and]
  cases h3 : priceOk now <;> simp only [Bool.false_eq_true, not_false_eq_true, not_true_eq_false, if_true, if_false, Bool.false_and, Bool.true_and]
  have p1 := priceOk_of h2
  have p2 := priceOk_of h3
  have b1 : BigOk now := bigOk_of (by omega)
  have b2 : BigOk old := bigOk_of (by omega)
  have b3 : BigOk (now - old) := bigOk_of (by omega)
  have i1 : I64 now := by simp only [I64]; omega
  have i2 : I64 old := by simp only [I64]; omega
  simp only [novationref1_Whole.f, novationref1_Less.f, if_pos i1, if_pos i2, Option.bind_some, if_pos (And.intro b1 b2)]
  have := (loop_fold (fun k i s => novationref15_Flows.l0 l inst (now - old) k s i) l.length (fun i s => s ++ (if (rd l (i : Int)).Inst = inst ∧ now - old ≠ 0 then [mkP (rd l (i : Int)).Acc ((rd l (i : Int)).Q * (now - old))] else [])) (fun i s => s = (flows l inst (now - old) i).map fun x => mkP x.1 x.2) (fun s => (s, (l.length : Int))) []
    (fun k i s hi hs => ?_) (fun k s hs => ?_) rfl (by omega))
  · obtain ⟨e1, e2⟩ := this
    rw [e2] at e1
    rw [e1]
    rfl
  · have e1 := wsucc (i := i) (by omega)
    have hq := hI i hi
    have bq : BigOk (rd l (i : Int)).Q := bigOk_of (by simp only [I64] at hq; omega)
    have hlen := flows_len l inst (now - old) i
    refine ⟨?_, by
      rw [hs, flows_succ, List.map_append]
      congr 1
      split <;> rfl⟩
    rw [novationref15_Flows.l0, e1, if_pos (by omega), if_pos (by omega)]
    by_cases c1 : (rd l (i : Int)).Inst = inst
    · rw [if_neg (not_not_intro c1)]
      simp only [novationref1_Sign.f, if_pos b3, Option.bind_some]
      by_cases c2 : now = old
      · rw [if_pos (by simp [c2, cmpI]), if_neg (by omega), List.append_nil]
      · rw [if_neg (by unfold cmpI; split <;> (try split) <;> omega), if_pos ⟨c1, by omega⟩, rRow_eq, Option.bind_some]
        simp only [novationref1_Whole.f, novationref1_Times.f, if_pos hq, Option.bind_some, if_pos (And.intro bq b3)]
        rw [if_pos (by rw [hs, List.length_map]; omega)]
        rfl
    · rw [if_pos c1, if_neg (fun h => c1 h.1), List.append_nil]
  · rw [novationref15_Flows.l0, if_neg (by omega)]
theorem rd_map {α β : Type} [Inhabited α] [Inhabited β] (f : α → β) (l : List α) {i : Nat} (h : i < l.length) : rd (l.map f) (i : Int) = f (rd l (i : Int)) := by
  rw [rd_get _ (by simpa using h), rd_get _ h, List.getElem_map]
theorem hEntries_eq (l : List (Int × Int)) (hl : l.length < 2 ^ 59) (hw : ∀ x ∈ l, Wid x.2 ∧ BigOk x.2) : novationhelp_Entries.f (l.map fun x => mkE x.1 x.2) (l.map fun x => mkP x.1 x.2) = some true := by
  unfold novationhelp_Entries.f
  rw [if_neg (by simp)]
  have h := loop_all (fun k i => novationhelp_Entries.l0 (l.map fun x => mkE x.1 x.2) (l.map fun x => mkP x.1 x.2) k i) l.length (fun _ => true) false (l.length : Int) (fun k i hi hp => ?_) (fun k i hi hp => by cases hp) (fun k => ?_) hl
  · rw [h]
    simp [Flow.go]
  · have e1 := wsucc (i := i) (by omega)
    have hx := hw (rd l (i : Int)) (by rw [rd_get l hi]; exact List.getElem_mem _)
    have a1 : ((l.map fun x => mkE x.1 x.2).length : Int) = (l.length : Int) := by simp
    have a2 : ((l.map fun x => mkP x.1 x.2).length : Int) = (l.length : Int) := by simp
    rw [novationhelp_Entries.l0, e1, a1, a2, if_pos (by omega), if_pos (by omega), if_pos (by omega), rd_map _ l hi, rd_map _ l hi]
    simp only [mkE, mkP, not_true_eq_false, if_false, novationhelp_Wide.f]
    rw [if_pos hx]
    simp
  · rw [novationhelp_Entries.l0, if_neg (by simp)]
theorem markFlows_true {l : List api_Pos} (inst old now : Int) (hl : l.length < 281474976710656) (hI : PosI l) : novationlaw15_MarkFlows.f l inst old now = some true := by
  unfold novationlaw15_MarkFlows.f
  rw [mark_known, Option.bind_some, if_neg (by simp)]
  by_cases h : (l.length : Int) > 160
  · rw [if_pos h]
  · rw [if_neg h, mark_Flows_eq inst old now (by omega) hI, Option.bind_some, rFlows_eq inst old now (by omega) hI, Option.bind_some]
    by_cases c : (stockOk l && (priceOk old && priceOk now)) = true
    · rw [if_pos c, if_pos c]
      have c' := c
      rw [Bool.and_eq_true, Bool.and_eq_true] at c'
      have p1 := priceOk_of c'.2.1
      have p2 := priceOk_of c'.2.2
      have hlen := flows_len l inst (now - old) l.length
      rw [if_pos rfl, hEntries_eq _ (by omega) (fun x hx => ?_)]
      · rfl
      · unfold flows at hx
        obtain ⟨j, hj, rfl⟩ := List.mem_map.1 hx
        have hj := (List.mem_filter.1 hj).1
        have hq := hI j (by simpa using hj)
        simp only [I64] at hq
        have hb : ((rd l (j : Int)).Q * (now - old)).natAbs ≤ 9223372036854775808 * 1000000000000 := by
          rw [Int.natAbs_mul]
          exact Nat.mul_le_mul (by omega) (by omega)
        exact ⟨by simp only [Wid]; omega, bigOk_of (by omega)⟩
    · rw [if_neg c, if_neg c, if_pos rfl]
      rfl
end Go.Ax

/- What entries make of gains: the program's answers and the reference's are the same ones. -/
set_option linter.unusedVariables false
set_option linter.unusedSimpArgs false
set_option maxRecDepth 100000
set_option maxHeartbeats 4000000
namespace Go.Ax
open Go
/-- A loop whose states are told ahead; it tells r at the first bad place. -/
theorem loop_st {σ τ ρ : Type} (L : Nat → Int → σ → Option (Flow τ ρ)) (n : Nat) (P : Nat → Bool) (S : Nat → σ) (r : ρ) (e : τ)
    (h0 : ∀ k (i : Nat), i < n → (∀ j, j < i → P j = true) → P i = true → L (k + 1) i (S i) = L k ((i + 1 : Nat) : Int) (S (i + 1)))
    (h1 : ∀ k (i : Nat), i < n → (∀ j, j < i → P j = true) → P i = false → L (k + 1) i (S i) = some (.ret r)) (h2 : ∀ k, (∀ j, j < n → P j = true) → L (k + 1) (n : Int) (S n) = some (.out e)) (hn : n < 2 ^ 59) :
    L FUEL 0 (S 0) = some (if (List.range n).all P = true then .out e else .ret r) := by
  have key : ∀ (d i k : Nat), i + d = n → d < k → (∀ j, j < i → P j = true) → L k (i : Int) (S i) = some (if (List.range' i d).all P = true then .out e else .ret r) := by
    intro d
    induction d with
    | zero =>
      intro i k hi hk hp
      obtain ⟨k, rfl⟩ : ∃ m, k = m + 1 := ⟨k - 1, by omega⟩
      have : i = n := by omega
      subst this
      rw [h2 _ hp]; simp
    | succ d ih =>
      intro i k hi hk hpre
      obtain ⟨k, rfl⟩ : ∃ m, k = m + 1 := ⟨k - 1, by omega⟩
      cases hp : P i with
      | true => rw [h0 k i (by omega) hpre hp, ih (i + 1) k (by omega) (by omega) (fun j hj => by rcases Nat.lt_or_eq_of_le (Nat.lt_succ_iff.1 hj) with h | h; exact hpre j h; exact h ▸ hp), List.range'_succ, List.all_cons, hp, Bool.true_and]
      | false => rw [h1 k i (by omega) hpre hp, List.range'_succ, List.all_cons, hp, Bool.false_and]; rfl
  have := key n 0 FUEL (by omega) (FUEL_big hn) (fun j hj => by omega)
  rw [← List.range_eq_range'] at this
  exact this
/-- The same without an answer on the way. -/
theorem loop_go {σ R : Type} (L : Nat → Int → σ → Option R) (n : Nat) (S : Nat → σ) (E : R) (hs : ∀ k (i : Nat), i < n → L (k + 1) i (S i) = L k ((i + 1 : Nat) : Int) (S (i + 1))) (he : ∀ k, L (k + 1) (n : Int) (S n) = some E) (hn : n < 2 ^ 59) :
    L FUEL 0 (S 0) = some E := by
  have key : ∀ (d i k : Nat), i + d = n → d < k → L k (i : Int) (S i) = some E := by
    intro d
    induction d with
    | zero =>
      intro i k hi hk
      obtain ⟨k, rfl⟩ : ∃ m, k = m + 1 := ⟨k - 1, by omega⟩
      have : i = n := by omega
      subst this
      exact he k
    | succ d ih =>
      intro i k hi hk
      obtain ⟨k, rfl⟩ : ∃ m, k = m + 1 := ⟨k - 1, by omega⟩
      rw [hs k i (by omega)]
      exact ih (i + 1) k (by omega) (by omega)
  exact key n 0 FUEL (by omega) (FUEL_big hn)
/-- A kind and a number that a row may have. -/
def keyOk (k n : Int) : Bool := decide ((k = 1 ∨ k = 2 ∨ k = 3 ∨ k = 4) ∧ n = 0 ∨ k = 5 ∧ 1 ≤ n ∧ n ≤ 24 ∨ (k = 6 ∨ k = 7) ∧ 1 ≤ n ∧ n ≤ 12)
theorem ledger_Key_eq (k n : Int) : ledger_Key.f k n = some (keyOk k n) := by
  unfold ledger_Key.f keyOk
  repeat' split
  all_goals first | (simp; omega) | (simp [*]; done) | (congr 1; rw [eq_comm, decide_eq_false_iff_not]; omega) | (congr 1; rw [Bool.eq_iff_iff]; simp; omega)
theorem rKey_eq (k n : Int) : novationref10_Key.f k n = some (keyOk k n) := by
  unfold novationref10_Key.f keyOk
  repeat' split
  all_goals first | (simp; omega) | (simp [*]; done) | (congr 1; rw [eq_comm, decide_eq_false_iff_not]; omega) | (congr 1; rw [Bool.eq_iff_iff]; simp; omega)
def gainQ (g : List api_Gain) (i : Nat) : Bool := decide (1 ≤ (rd g (i : Int)).Acc ∧ (rd g (i : Int)).Acc ≤ 24 ∧ (rd g (i : Int)).X ≠ 0 ∧ (0 < i → (rd g ((i : Int) - 1)).Acc < (rd g (i : Int)).Acc))
def gainsOk (g : List api_Gain) : Bool := (List.range g.length).all (gainQ g)
theorem GainsRight_eq (g : List api_Gain) (hl : g.length < 2 ^ 59) : mark_GainsRight.f g = some (gainsOk g) := by
  have h := loop_all (fun k i => mark_GainsRight.l0 g k i) g.length (gainQ g) false (g.length : Int) (fun k i hi hp => ?_) (fun k i hi hp => ?_) (fun k => ?_) hl
  · unfold mark_GainsRight.f
    rw [h]
    simp only [Option.bind_some, flow_if]
    unfold gainsOk
    cases (List.range g.length).all (gainQ g) <;> rfl
  · have e1 := wsucc (i := i) (by omega)
    have e2 := wpred (i := i) (by omega)
    unfold gainQ at hp
    have hp := of_decide_eq_true hp
    rw [mark_GainsRight.l0, e1, e2]
    repeat' split
    all_goals first | rfl | (exfalso; omega)
  · have e1 := wsucc (i := i) (by omega)
    have e2 := wpred (i := i) (by omega)
    unfold gainQ at hp
    have hp := of_decide_eq_false hp
    rw [mark_GainsRight.l0, e1, e2]
    repeat' split
    all_goals first | rfl | (exfalso; omega)
  · rw [mark_GainsRight.l0, if_neg (by omega)]
theorem RightGains_eq (g : List api_Gain) (hl : g.length < 2 ^ 59) : novationref15_RightGains.f g = some (gainsOk g) := by
  have h := loop_all (fun k i => novationref15_RightGains.l0 g k i) g.length (gainQ g) false (g.length : Int) (fun k i hi hp => ?_) (fun k i hi hp => ?_) (fun k => ?_) hl
  · unfold novationref15_RightGains.f
    rw [h]
    simp only [Option.bind_some, flow_if]
    unfold gainsOk
    cases (List.range g.length).all (gainQ g) <;> rfl
  · have e1 := wsucc (i := i) (by omega)
    have e2 := wpred (i := i) (by omega)
    unfold gainQ at hp
    have hp := of_decide_eq_true hp
    rw [novationref15_RightGains.l0, e1, e2]
    repeat' split
    all_goals first | rfl | (exfalso; omega)
  · have e1 := wsucc (i := i) (by omega)
    have e2 := wpred (i := i) (by omega)
    unfold gainQ at hp
    have hp := of_decide_eq_false hp
    rw [novationref15_RightGains.l0, e1, e2]
    repeat' split
    all_goals first | rfl | (exfalso; omega)
  · rw [novationref15_RightGains.l0, if_neg (by omega)]
end Go.Ax

/- What is brought together for each account. -/
set_option linter.unusedVariables false
set_option linter.unusedSimpArgs false
set_option maxRecDepth 100000
set_option maxHeartbeats 4000000
namespace Go.Ax
open Go
/-- What the first n of a list bring to a. -/
def brought {α : Type} [Inhabited α] (c : α → Int → Bool) (v : α → Int) (l : List α) (a : Int) (n : Nat) : List Int := ((List.range n).filter fun j : Nat => c (rd l (j : Int)) a).map fun j : Nat => v (rd l (j : Int))
theorem brought_succ {α : Type} [Inhabited α] (c : α → Int → Bool) (v : α → Int) (l : List α) (a : Int) (n : Nat) : brought c v l a (n + 1) = brought c v l a n ++ (if c (rd l (n : Int)) a = true then [v (rd l (n : Int))] else []) := by
  unfold brought
  rw [List.range_succ, List.filter_append, List.map_append]
  congr 1
  cases h : c (rd l (n : Int)) a <;> simp [h]
theorem brought_len {α : Type} [Inhabited α] (c : α → Int → Bool) (v : α → Int) (l : List α) (a : Int) (n : Nat) : (brought c v l a n).length ≤ n := by
  unfold brought
  rw [List.length_map]
  have := List.length_filter_le (fun j : Nat => c (rd l (j : Int)) a) (List.range n)
  simpa using this
def gC (x : api_Gain) (a : Int) : Bool := decide (x.Acc = a)
def gV (x : api_Gain) : Int := x.X
def eC (x : api_Entry) (a : Int) : Bool := decide (x.Kind = 5 ∧ x.N = a)
def eV (x : api_Entry) : Int := x.X
/-- The lists of all accounts. -/
def tab (F : Int → List Int) : List (List Int) := (List.range 25).map fun a : Nat => F (a : Int)
theorem tab_len (F : Int → List Int) : (tab F).length = 25 := by simp [tab]
theorem tab_rd (F : Int → List Int) {a : Int} (h : 0 ≤ a ∧ a < 25) : rd (tab F) a = F a := by
  obtain ⟨n, rfl⟩ : ∃ n : Nat, a = (n : Int) := ⟨a.toNat, by omega⟩
  rw [rd_get _ (by rw [tab_len]; omega)]
  simp [tab]
theorem tab_set (F : Int → List Int) {a : Int} (h : 0 ≤ a ∧ a < 25) (v : Int) : (tab F).set a.toNat (F a ++ [v]) = tab fun b => F b ++ (if b = a then [v] else []) := by
  apply List.ext_getElem
  · simp [tab]
  · intro i h1 h2
    simp only [tab_len, List.length_set] at h1
    rw [List.getElem_set]
    by_cases c : a.toNat = i
    · rw [if_pos c]
      have : a = (i : Int) := by omega
      subst this
      simp [tab]
    · rw [if_neg c]
      have : ¬ (i : Int) = a := by omega
      simp [tab, this]
theorem gains_l0 {g : List api_Gain} (hg : gainsOk g = true) (hX : ∀ i, i < g.length → I64 (rd g (i : Int)).X) (hl : g.length < 2 ^ 32) :
    mark_Gains.l0 g FUEL ([[], [], [], [], [], [], [], [], [], [], [], [], [], [], [], [], [], [], [], [], [], [], [], [], []] : List (List Int)) 0 = some (tab fun a => brought gC gV g a g.length, (g.length : Int)) := by
  have := loop_go (fun k i s => mark_Gains.l0 g k s i) g.length (fun i => tab fun a => brought gC gV g a i) (tab (fun a => brought gC gV g a g.length), (g.length : Int)) (fun k i hi => ?_) (fun k => ?_) (by omega)
  · exact this
  · have e1 := wsucc (i := i) (by omega)
    have hq := all_range_iff.1 hg i hi
    unfold gainQ at hq
    have hq := of_decide_eq_true hq
    have hr : 0 ≤ (rd g (i : Int)).Acc ∧ (rd g (i : Int)).Acc < 25 := by omega
    have hlen := brought_len gC gV g (rd g (i : Int)).Acc i
    simp only [mark_Gains.l0, e1, tab_len, tab_rd _ hr, wide_Of.f]
    rw [if_pos (by omega), if_pos (by omega), if_pos hr, if_pos (by omega), if_pos (hX i hi), Option.bind_some, if_pos (by omega), tab_set _ hr]
    congr 2
    funext b
    rw [brought_succ]
    congr 1
    simp only [gC, gV, decide_eq_true_eq]
    by_cases c : b = (rd g (i : Int)).Acc
    · rw [if_pos c, if_pos c.symm]
    · rw [if_neg c, if_neg (fun h => c h.symm)]
  · simp only [mark_Gains.l0]; rw [if_neg (by omega)]
def entP (e : List api_Entry) (i : Nat) : Bool := keyOk (rd e (i : Int)).Kind (rd e (i : Int)).N
theorem gains_l1 (F : Int → List Int) {e : List api_Entry} (hF : ∀ a, (F a).length ≤ 1000) (hl : e.length ≤ 400) :
    mark_Gains.l1 e FUEL (tab F) 0 = some (if (List.range e.length).all (entP e) = true then .out (tab (fun a => F a ++ brought eC eV e a e.length), (e.length : Int)) else .ret ([], 1)) := by
  have := loop_st (fun k i s => mark_Gains.l1 e k s i) e.length (entP e) (fun i => tab fun a => F a ++ brought eC eV e a i) ([], 1) (tab (fun a => F a ++ brought eC eV e a e.length), (e.length : Int)) (fun k i hi hpre hp => ?_) (fun k i hi hpre hp => ?_) (fun k hpre => ?_) (by omega)
  · have e0 : (tab fun a => F a ++ brought eC eV e a 0) = tab F := by simp [brought]
    rw [e0] at this
    exact this
  · have e1 := wsucc (i := i) (by omega)
    unfold entP at hp
    simp only [mark_Gains.l1, e1, ledger_Key_eq, Option.bind_some]
    rw [if_pos (by omega), if_pos (by omega), if_neg (by simp [hp])]
    have hk := hp
    unfold keyOk at hk
    have hk := of_decide_eq_true hk
    by_cases c : (rd e (i : Int)).Kind = 5
    · have hr : 0 ≤ (rd e (i : Int)).N ∧ (rd e (i : Int)).N < 25 := by omega
      have hlen := brought_len eC eV e (rd e (i : Int)).N i
      have hf := hF (rd e (i : Int)).N
      rw [if_pos c, if_pos hr, tab_len, if_pos (by omega), tab_rd _ hr, if_pos (by rw [List.length_append]; omega), tab_set _ hr]
      congr 2
      funext b
      rw [brought_succ, List.append_assoc]
      congr 2
      simp only [eC, eV, decide_eq_true_eq, c, true_and]
      by_cases c2 : b = (rd e (i : Int)).N
      · rw [if_pos c2, if_pos c2.symm]
      · rw [if_neg c2, if_neg (fun h => c2 h.symm)]
    · rw [if_neg c]
      congr 2
      funext b
      rw [brought_succ, if_neg (by simp [eC, c]), List.append_nil]
  · unfold entP at hp
    simp only [mark_Gains.l1, ledger_Key_eq, Option.bind_some]
    rw [if_pos (by omega), if_pos (by omega), if_pos (by simp [hp])]
  · simp only [mark_Gains.l1]; rw [if_neg (by omega)]
end Go.Ax

/- What the sums make: both sides tell the same gains. -/
set_option linter.unusedVariables false
set_option linter.unusedSimpArgs false
set_option maxRecDepth 100000
set_option maxHeartbeats 4000000
namespace Go.Ax
open Go
/-- The gains of the accounts from lo on, n of them. -/
def outs (T : Int → Int) (lo : Nat) (n : Nat) : List api_Gain := ((List.range n).filter fun j : Nat => decide (T ((lo + j : Nat) : Int) ≠ 0)).map fun j : Nat => ⟨((lo + j : Nat) : Int), T ((lo + j : Nat) : Int)⟩
theorem outs_succ (T : Int → Int) (lo n : Nat) : outs T lo (n + 1) = outs T lo n ++ (if T ((lo + n : Nat) : Int) ≠ 0 then [⟨((lo + n : Nat) : Int), T ((lo + n : Nat) : Int)⟩] else []) := by
  unfold outs
  rw [List.range_succ, List.filter_append, List.map_append]
  congr 1
  by_cases h : T ((lo + n : Nat) : Int) ≠ 0
  · simp only [List.filter_cons, decide_eq_true_eq, List.filter_nil]
    rw [if_pos h, if_pos h]; rfl
  · simp only [List.filter_cons, decide_eq_true_eq, List.filter_nil]
    rw [if_neg h, if_neg h]; rfl
theorem outs_len (T : Int → Int) (lo n : Nat) : (outs T lo n).length ≤ n := by
  unfold outs
  rw [List.length_map]
  have := List.length_filter_le (fun j : Nat => decide (T ((lo + j : Nat) : Int) ≠ 0)) (List.range n)
  simpa using this
theorem fit_wfit {z : Int} (h : fit z = true) : wfit z = true ∧ fitV z = z ∧ wfitV z = z := by
  have h' := h
  unfold fit at h'
  have h' := of_decide_eq_true h'
  have hw : Wid z := by simp only [Wid]; omega
  refine ⟨by unfold wfit; exact decide_eq_true hw, ?_, by unfold wfitV; rw [if_pos hw]⟩
  unfold fitV; rw [if_pos h]
theorem wfitV_wid (z : Int) : Wid (wfitV z) := by
  unfold wfitV
  split
  · assumption
  · decide
theorem gains_l2 (F : Int → List Int) (n0 : Int) (hw : ∀ a, (F a).all wfit = true) (hF : ∀ a, (F a).length ≤ 100000) :
    mark_Gains.l2 (tab F, n0) FUEL [] 0 = some (if (List.range 25).all (fun a : Nat => fit (F (a : Int)).sum) = true then .out (outs (fun a => (F a).sum) 0 25, 25) else .ret ([], 2)) := by
  have := loop_st (fun k i s => mark_Gains.l2 (tab F, n0) k s i) 25 (fun a : Nat => fit (F (a : Int)).sum) (fun i => outs (fun a => (F a).sum) 0 i) ([], 2) (outs (fun a => (F a).sum) 0 25, (25 : Int)) (fun k i hi hpre hp => ?_) (fun k i hi hpre hp => ?_) (fun k hpre => ?_) (by omega)
  · exact this
  · have e1 := wsucc (i := i) (by omega)
    have hr : 0 ≤ (i : Int) ∧ (i : Int) < 25 := by omega
    obtain ⟨f1, f2, f3⟩ := fit_wfit hp
    have hlen := outs_len (fun a => (F a).sum) 0 i
    simp only [mark_Gains.l2, e1, tab_len, tab_rd _ hr, wide_Sum.f, wide_Int.f]
    rw [if_pos (by omega), if_pos hr, if_pos (by omega), if_pos ⟨hw _, by have := hF (i : Int); omega⟩, Option.bind_some]
    simp only [f3]
    rw [if_pos (by have := wfitV_wid (F (i : Int)).sum; rwa [f3] at this), Option.bind_some]
    simp only [f1, hp, f2, not_true_eq_false, if_false]
    rw [outs_succ]
    simp only [Nat.zero_add]
    by_cases c : (F (i : Int)).sum = 0
    · rw [if_neg (by simp [c]), if_neg (by simp [c]), List.append_nil]
    · rw [if_pos c, if_pos (by omega), if_pos c]
  · have hr : 0 ≤ (i : Int) ∧ (i : Int) < 25 := by omega
    simp only [mark_Gains.l2, tab_len, tab_rd _ hr, wide_Sum.f, wide_Int.f]
    rw [if_pos (by omega), if_pos hr, if_pos (by omega), if_pos ⟨hw _, by have := hF (i : Int); omega⟩, Option.bind_some, if_pos (wfitV_wid _), Option.bind_some]
    cases h1 : wfit (F (i : Int)).sum with
    | false => simp
    | true =>
      have : wfitV (F (i : Int)).sum = (F (i : Int)).sum := by
        unfold wfit at h1
        unfold wfitV
        rw [if_pos (of_decide_eq_true h1)]
      simp [this, hp]
  · simp only [mark_Gains.l2]; rw [if_neg (by omega)]; rfl
end Go.Ax

/- mark.Gains and the reference's Gains. -/
set_option linter.unusedVariables false
set_option linter.unusedSimpArgs false
set_option maxRecDepth 100000
set_option maxHeartbeats 4000000
namespace Go.Ax
open Go
def both (g : List api_Gain) (e : List api_Entry) (a : Int) : List Int := brought gC gV g a g.length ++ brought eC eV e a e.length
def total (g : List api_Gain) (e : List api_Entry) (a : Int) : Int := (both g e a).sum
def entsOk (e : List api_Entry) : Bool := (List.range e.length).all (entP e)
def GainI (g : List api_Gain) : Prop := ∀ i, i < g.length → I64 (rd g (i : Int)).X
def EntI (e : List api_Entry) : Prop := ∀ i, i < e.length → Wid (rd e (i : Int)).X
theorem brought_all {α : Type} [Inhabited α] (c : α → Int → Bool) (v : α → Int) (l : List α) (a : Int) (n : Nat) {P : Int → Bool} (h : ∀ i, i < n → P (v (rd l (i : Int))) = true) : (brought c v l a n).all P = true := by
  rw [List.all_eq_true]
  intro x hx
  obtain ⟨j, hj, rfl⟩ := List.mem_map.1 hx
  have := (List.mem_filter.1 hj).1
  exact h j (by simpa using this)
theorem mark_Gains_eq {g : List api_Gain} {e : List api_Entry} (hg : g.length ≤ 40) (he : e.length ≤ 40) (iG : GainI g) (iE : EntI e) :
    mark_Gains.f g e = some (if gainsOk g = true then (if entsOk e = true then (if (List.range 25).all (fun a : Nat => fit (total g e (a : Int))) = true then (outs (total g e) 0 25, 0) else ([], 2)) else ([], 1)) else ([], 1)) := by
  unfold mark_Gains.f
  rw [GainsRight_eq g (by omega), Option.bind_some]
  by_cases h1 : gainsOk g = true
  · rw [if_neg (not_not_intro h1), if_neg (by omega), gains_l0 h1 iG (by omega), Option.bind_some, if_pos h1]
    rw [gains_l1 _ (fun a => by have := brought_len gC gV g a g.length; omega) (by omega), Option.bind_some, flow_if]
    unfold entsOk
    by_cases h2 : (List.range e.length).all (entP e) = true
    · rw [if_pos h2, if_pos h2, if_pos (tab_len _)]
      have := gains_l2 (both g e) (e.length : Int) (fun a => ?_) (fun a => ?_)
      · unfold both at this
        rw [this, Option.bind_some, flow_if]
        unfold total both
        split <;> rfl
      · unfold both
        rw [List.all_append, Bool.and_eq_true]
        refine ⟨brought_all _ _ _ _ _ fun i hi => ?_, brought_all _ _ _ _ _ fun i hi => ?_⟩
        · have := iG i hi
          simp only [I64] at this
          exact decide_eq_true (by simp only [gV, Wid]; omega)
        · exact decide_eq_true (iE i hi)
      · have h1 := brought_len gC gV g a g.length
        have h2 := brought_len eC eV e a e.length
        unfold both
        rw [List.length_append]
        omega
    · rw [if_neg h2, if_neg h2]
  · rw [if_pos h1, if_neg h1]
end Go.Ax

/- The reference's Gains. -/
set_option linter.unusedVariables false
set_option linter.unusedSimpArgs false
set_option maxRecDepth 100000
set_option maxHeartbeats 4000000
namespace Go.Ax
open Go
def toP (x : api_Entry) : novationref10_Part := ⟨x.Kind, x.N, x.X⟩
theorem Parts_eq {e : List api_Entry} (hl : e.length < 2 ^ 32) (iE : EntI e) : novationref10_Parts.f e = some (e.map toP) := by
  unfold novationref10_Parts.f
  have h := loop_go (fun k i s => novationref10_Parts.l0 e k s i) e.length (fun i => (e.take i).map toP) ((e.map toP), (e.length : Int)) (fun k i hi => ?_) (fun k => ?_) (by omega)
  · rw [show ([] : List novationref10_Part) = (e.take 0).map toP from rfl, h]
    rfl
  · have e1 := wsucc (i := i) (by omega)
    simp only [novationref10_Parts.l0, e1, novationref1_Wide.f]
    rw [if_pos (by omega), if_pos (by omega), if_pos (iE i hi), Option.bind_some, if_pos (by simp; omega)]
    congr 1
    rw [List.take_succ_eq_append_getElem hi, List.map_append, rd_get e hi]
    rfl
  · simp only [novationref10_Parts.l0]
    rw [if_neg (by omega), List.take_length]
theorem parts_eq {e : List api_Entry} (hl : e.length < 2 ^ 32) (iE : EntI e) : novationlaw15_parts.f e = some (if entsOk e = true then (e.map toP, decide ((e.length : Int) ≤ 400)) else ([], false)) := by
  unfold novationlaw15_parts.f
  have h := loop_all (fun k i => novationlaw15_parts.l0 e k i) e.length (entP e) ([], false) (e.length : Int) (fun k i hi hp => ?_) (fun k i hi hp => ?_) (fun k => ?_) (by omega)
  · rw [h, Option.bind_some, flow_if, Parts_eq hl iE, Option.bind_some]
    unfold entsOk
    split <;> rfl
  · have e1 := wsucc (i := i) (by omega)
    unfold entP at hp
    simp only [novationlaw15_parts.l0, e1, rKey_eq, Option.bind_some]
    rw [if_pos (by omega), if_pos (by omega), if_neg (by simp [hp])]
  · unfold entP at hp
    simp only [novationlaw15_parts.l0, rKey_eq, Option.bind_some]
    rw [if_pos (by omega), if_pos (by omega), if_pos (by simp [hp])]
  · simp only [novationlaw15_parts.l0]; rw [if_neg (by omega)]
end Go.Ax

/- The reference's Gains, and the law. -/
set_option linter.unusedVariables false
set_option linter.unusedSimpArgs false
set_option maxRecDepth 100000
set_option maxHeartbeats 4000000
namespace Go.Ax
open Go
theorem accs_rise {g : List api_Gain} (h : gainsOk g = true) {i j : Nat} (hj : j < g.length) (hij : i < j) : (rd g (i : Int)).Acc < (rd g (j : Int)).Acc := by
  induction j with
  | zero => omega
  | succ j ih =>
    have hq := all_range_iff.1 h (j + 1) hj
    unfold gainQ at hq
    have hq := (of_decide_eq_true hq).2.2.2 (by omega)
    rw [show ((j + 1 : Nat) : Int) - 1 = (j : Int) by omega] at hq
    rcases Nat.lt_or_eq_of_le (Nat.lt_succ_iff.1 hij) with h1 | h1
    · have := ih (by omega) h1; omega
    · subst h1; exact hq
/-- What was put last. -/
def lastG (g : List api_Gain) (a : Int) : Nat → Int
  | 0 => 0
  | n + 1 => if (rd g (n : Int)).Acc = a then (rd g (n : Int)).X else lastG g a n
theorem lastG_eq {g : List api_Gain} (h : gainsOk g = true) (a : Int) (n : Nat) (hn : n ≤ g.length) : lastG g a n = (brought gC gV g a n).sum ∧ ((∃ j, j < n ∧ (rd g (j : Int)).Acc = a) ∨ brought gC gV g a n = []) := by
  induction n with
  | zero => exact ⟨rfl, .inr rfl⟩
  | succ n ih =>
    obtain ⟨e1, e2⟩ := ih (by omega)
    rw [brought_succ]
    simp only [lastG, gC, gV, decide_eq_true_eq]
    by_cases c : (rd g (n : Int)).Acc = a
    · rw [if_pos c, if_pos c]
      have : brought gC gV g a n = [] := by
        rcases e2 with ⟨j, hj, hja⟩ | e2
        · have := accs_rise h (i := j) (j := n) (by omega) hj; omega
        · exact e2
      exact ⟨by rw [this]; simp, .inl ⟨n, by omega, c⟩⟩
    · rw [if_neg c, if_neg c, List.append_nil]
      refine ⟨e1, ?_⟩
      rcases e2 with ⟨j, hj, hja⟩ | e2
      · exact .inl ⟨j, by omega, hja⟩
      · exact .inr e2
end Go.Ax

/- The reference's loops. -/
set_option linter.unusedVariables false
set_option linter.unusedSimpArgs false
set_option maxRecDepth 100000
set_option maxHeartbeats 4000000
namespace Go.Ax
open Go
theorem rGains_l1 {g : List api_Gain} (a : Int) (hl : g.length < 2 ^ 32) (iG : GainI g) : novationref15_Gains.l1 g a FUEL 0 0 = some (lastG g a g.length, (g.length : Int)) := by
  have h := loop_go (fun k i s => novationref15_Gains.l1 g a k s i) g.length (fun i => lastG g a i) (lastG g a g.length, (g.length : Int)) (fun k i hi => ?_) (fun k => ?_) (by omega)
  · exact h
  · have e1 := wsucc (i := i) (by omega)
    simp only [novationref15_Gains.l1, e1, novationref1_Whole.f, lastG]
    rw [if_pos (by omega), if_pos (by omega)]
    by_cases c : (rd g (i : Int)).Acc = a
    · rw [if_pos c, if_pos c, if_pos (iG i hi), Option.bind_some]
    · rw [if_neg c, if_neg c]
  · simp only [novationref15_Gains.l1]; rw [if_neg (by omega)]
theorem brought_bound {e : List api_Entry} (iE : EntI e) (a : Int) (n : Nat) (hn : n ≤ e.length) : ((brought eC eV e a n).sum).natAbs ≤ n * 170141183460469231731687303715884105728 := by
  induction n with
  | zero => simp [brought]
  | succ n ih =>
    have ih := ih (by omega)
    have h := iE n (by omega)
    simp only [Wid] at h
    rw [brought_succ, List.sum_append]
    split
    · simp only [List.sum_cons, List.sum_nil, eV]; omega
    · simp only [List.sum_nil]; omega
theorem rGains_l2 {e : List api_Entry} (a t : Int) (hl : e.length ≤ 40) (iE : EntI e) (ht : I64 t) : novationref15_Gains.l2 (e.map toP) a FUEL t 0 = some (t + (brought eC eV e a e.length).sum, (e.length : Int)) := by
  have h := loop_go (fun k i s => novationref15_Gains.l2 (e.map toP) a k s i) e.length (fun i => t + (brought eC eV e a i).sum) (t + (brought eC eV e a e.length).sum, (e.length : Int)) (fun k i hi => ?_) (fun k => ?_) (by omega)
  · simpa [brought] using h
  · have e1 := wsucc (i := i) (by omega)
    have hb := brought_bound iE a i (by omega)
    have hx := iE i hi
    simp only [Wid] at hx
    simp only [I64] at ht
    have b1 : BigOk (t + (brought eC eV e a i).sum) := bigOk_of (by omega)
    have b2 : BigOk (rd e (i : Int)).X := bigOk_of (by omega)
    simp only [novationref15_Gains.l2, e1, List.length_map, rd_map toP e hi]
    rw [if_pos (by omega), if_pos (by omega), brought_succ]
    simp only [toP, novationref1_Plus.f, eC, eV, decide_eq_true_eq]
    by_cases c : (rd e (i : Int)).Kind = 5
    · by_cases c2 : (rd e (i : Int)).N = a
      · simp only [c, c2, if_true, b1, b2, and_self, Option.bind_some, List.sum_append, List.sum_cons, List.sum_nil, Int.add_zero, Int.add_assoc]
      · simp only [c, c2, if_true, if_false, and_false, List.append_nil]
    · simp only [c, if_false, false_and, List.append_nil]
  · simp only [novationref15_Gains.l2]; rw [if_neg (by simp)]
end Go.Ax

/- MarkGains: the law. -/
set_option linter.unusedVariables false
set_option linter.unusedSimpArgs false
set_option maxRecDepth 100000
set_option maxHeartbeats 4000000
namespace Go.Ax
open Go
theorem hGains_eq (l : List api_Gain) (hl : l.length < 2 ^ 59) : novationhelp_Gains.f l l = some true := by
  unfold novationhelp_Gains.f
  rw [if_neg (by simp)]
  have h := loop_all (fun k i => novationhelp_Gains.l0 l l k i) l.length (fun _ => true) false (l.length : Int) (fun k i hi hp => ?_) (fun k i hi hp => by cases hp) (fun k => ?_) hl
  · rw [h]
    simp [Flow.go]
  · have e1 := wsucc (i := i) (by omega)
    rw [novationhelp_Gains.l0, e1, if_pos (by omega), if_pos (by omega), if_pos (by omega), if_neg (by simp)]
  · rw [novationhelp_Gains.l0, if_neg (by omega)]
theorem rGains_l0 {g : List api_Gain} {e : List api_Entry} (h : gainsOk g = true) (hg : g.length ≤ 40) (he : e.length ≤ 40) (iG : GainI g) (iE : EntI e) :
    novationref15_Gains.l0 g (e.map toP) FUEL [] 1 = some (if (List.range 24).all (fun a : Nat => fit (total g e ((1 + a : Nat) : Int))) = true then .out (outs (total g e) 1 24, 25) else .ret ([], 2)) := by
  have hs := loop_st (fun k i s => novationref15_Gains.l0 g (e.map toP) k s (i + 1)) 24 (fun a : Nat => fit (total g e ((1 + a : Nat) : Int))) (fun i => outs (total g e) 1 i) ([], 2) (outs (total g e) 1 24, (25 : Int)) (fun k i hi hpre hp => ?_) (fun k i hi hpre hp => ?_) (fun k hpre => ?_) (by omega)
  · exact hs
  · have e1 : IntKind.i64.wrap ((i : Int) + 1 + 1) = ((i + 1 : Nat) : Int) + 1 := by rw [i64_wrap _ (by omega) (by omega)]; omega
    have ea : ((1 + i : Nat) : Int) = (i : Int) + 1 := by omega
    have ht : I64 (lastG g ((i : Int) + 1) g.length) := by
      rcases (lastG_eq h ((i : Int) + 1) g.length (Nat.le_refl _)) with ⟨_, _⟩
      clear hp hpre
      have : ∀ n, n ≤ g.length → I64 (lastG g ((i : Int) + 1) n) := by
        intro n
        induction n with
        | zero => intro _; simp [lastG, I64]
        | succ n ih =>
          intro hn
          simp only [lastG]
          split
          · exact iG n (by omega)
          · exact ih (by omega)
      exact this _ (Nat.le_refl _)
    have hb := brought_bound iE ((i : Int) + 1) e.length (Nat.le_refl _)
    have et : lastG g ((i : Int) + 1) g.length + (brought eC eV e ((i : Int) + 1) e.length).sum = total g e ((i : Int) + 1) := by
      unfold total both
      rw [List.sum_append, (lastG_eq h ((i : Int) + 1) g.length (Nat.le_refl _)).1]
    simp only [I64] at ht
    have bo : BigOk (total g e ((i : Int) + 1)) := by rw [← et]; exact bigOk_of (by omega)
    rw [ea] at hp
    have hlen := outs_len (total g e) 1 i
    simp only [novationref15_Gains.l0, e1, rGains_l1 _ (by omega) iG, Option.bind_some, rGains_l2 _ _ he iE (by simp only [I64]; omega), et, novationref1_Int.f]
    rw [if_pos (by omega), if_pos bo, Option.bind_some]
    simp only [hp, (fit_wfit hp).2.1, not_true_eq_false, if_false]
    rw [outs_succ, ea]
    by_cases c : total g e ((i : Int) + 1) = 0
    · simp [c]
    · rw [if_pos c, if_pos (by omega), if_pos c]
  · have e1 : IntKind.i64.wrap ((i : Int) + 1 + 1) = ((i + 1 : Nat) : Int) + 1 := by rw [i64_wrap _ (by omega) (by omega)]; omega
    have ea : ((1 + i : Nat) : Int) = (i : Int) + 1 := by omega
    have ht : I64 (lastG g ((i : Int) + 1) g.length) := by
      rcases (lastG_eq h ((i : Int) + 1) g.length (Nat.le_refl _)) with ⟨_, _⟩
      clear hp hpre
      have : ∀ n, n ≤ g.length → I64 (lastG g ((i : Int) + 1) n) := by
        intro n
        induction n with
        | zero => intro _; simp [lastG, I64]
        | succ n ih =>
          intro hn
          simp only [lastG]
          split
          · exact iG n (by omega)
          · exact ih (by omega)
      exact this _ (Nat.le_refl _)
    have hb := brought_bound iE ((i : Int) + 1) e.length (Nat.le_refl _)
    have et : lastG g ((i : Int) + 1) g.length + (brought eC eV e ((i : Int) + 1) e.length).sum = total g e ((i : Int) + 1) := by
      unfold total both
      rw [List.sum_append, (lastG_eq h ((i : Int) + 1) g.length (Nat.le_refl _)).1]
    simp only [I64] at ht
    have bo : BigOk (total g e ((i : Int) + 1)) := by rw [← et]; exact bigOk_of (by omega)
    rw [ea] at hp
    simp only [novationref15_Gains.l0, e1, rGains_l1 _ (by omega) iG, Option.bind_some, rGains_l2 _ _ he iE (by simp only [I64]; omega), et, novationref1_Int.f]
    rw [if_pos (by omega), if_pos bo, Option.bind_some]
    simp [hp]
  · simp only [novationref15_Gains.l0]; rw [if_neg (by omega)]; rfl
end Go.Ax

/- MarkGains: the law holds. -/
set_option linter.unusedVariables false
set_option linter.unusedSimpArgs false
set_option maxRecDepth 100000
set_option maxHeartbeats 4000000
namespace Go.Ax
open Go
theorem total_zero {g : List api_Gain} {e : List api_Entry} (h : gainsOk g = true) (he : entsOk e = true) : total g e 0 = 0 := by
  have h1 : brought gC gV g 0 g.length = [] := by
    unfold brought
    rw [List.map_eq_nil_iff, List.filter_eq_nil_iff]
    intro j hj
    have hq := all_range_iff.1 h j (by simpa using hj)
    unfold gainQ at hq
    have := (of_decide_eq_true hq).1
    simp only [gC, decide_eq_true_eq]; omega
  have h2 : brought eC eV e 0 e.length = [] := by
    unfold brought
    rw [List.map_eq_nil_iff, List.filter_eq_nil_iff]
    intro j hj
    have hq := all_range_iff.1 he j (by simpa using hj)
    unfold entP keyOk at hq
    have := of_decide_eq_true hq
    simp only [eC, decide_eq_true_eq]; omega
  unfold total both
  rw [h1, h2]; rfl
theorem outs_shift {T : Int → Int} (h : T 0 = 0) : outs T 0 25 = outs T 1 24 := by
  unfold outs
  rw [show List.range 25 = 0 :: (List.range 24).map (· + 1) from by decide, List.filter_cons]
  rw [if_neg (by simp [h]), List.filter_map, List.map_map]
  have e : ∀ j : Nat, ((0 + (j + 1) : Nat) : Int) = ((1 + j : Nat) : Int) := fun j => by omega
  simp only [Function.comp_def, e]
theorem all_shift {T : Int → Int} (h : T 0 = 0) : (List.range 25).all (fun a : Nat => fit (T (a : Int))) = (List.range 24).all (fun a : Nat => fit (T ((1 + a : Nat) : Int))) := by
  rw [show List.range 25 = 0 :: (List.range 24).map (· + 1) from by decide, List.all_cons, List.all_map]
  have e : ∀ j : Nat, ((j + 1 : Nat) : Int) = ((1 + j : Nat) : Int) := fun j => by omega
  have h0 : fit (T ((0 : Nat) : Int)) = true := by rw [show ((0 : Nat) : Int) = 0 from rfl, h]; decide
  rw [h0, Bool.true_and]
  simp only [Function.comp_def, e]
theorem rGains_eq {g : List api_Gain} {e : List api_Entry} (hg : g.length ≤ 40) (he : e.length ≤ 40) (iG : GainI g) (iE : EntI e) :
    novationref15_Gains.f g (e.map toP) = some (if gainsOk g = true then (if (List.range 24).all (fun a : Nat => fit (total g e ((1 + a : Nat) : Int))) = true then (outs (total g e) 1 24, 0) else ([], 2)) else ([], 1)) := by
  unfold novationref15_Gains.f
  rw [RightGains_eq g (by omega), Option.bind_some]
  by_cases h1 : gainsOk g = true
  · rw [if_neg (not_not_intro h1), rGains_l0 h1 hg he iG iE, Option.bind_some, flow_if, if_pos h1]
    split <;> rfl
  · rw [if_pos h1, if_neg h1]
theorem markGains_true {g : List api_Gain} {e : List api_Entry} (iG : GainI g) (iE : EntI e) : novationlaw15_MarkGains.f g e = some true := by
  unfold novationlaw15_MarkGains.f
  rw [mark_known, Option.bind_some, if_neg (by simp)]
  by_cases h1 : (g.length : Int) > 40
  · rw [if_pos h1]
  by_cases h2 : (e.length : Int) > 40
  · rw [if_neg h1, if_pos h2]
  rw [if_neg h1, if_neg h2, parts_eq (by omega) iE, Option.bind_some, mark_Gains_eq (by omega) (by omega) iG iE, Option.bind_some, GainsRight_eq g (by omega), Option.bind_some, RightGains_eq g (by omega), Option.bind_some, if_neg (by simp)]
  by_cases hE : entsOk e = true
  · simp only [hE, if_true]
    rw [if_neg (by simp; omega), rGains_eq (by omega) (by omega) iG iE, Option.bind_some]
    by_cases hG : gainsOk g = true
    · have t0 := total_zero hG hE
      simp only [hG, if_true, all_shift t0, outs_shift t0]
      rw [hGains_eq _ (by split <;> simp <;> (have := outs_len (total g e) 1 24; omega))]
      rfl
    · simp only [hG, if_false, if_true]
      rfl
  · simp only [hE, if_false, Bool.false_eq_true, not_false_eq_true, if_true]
    split <;> rfl
end Go.Ax
