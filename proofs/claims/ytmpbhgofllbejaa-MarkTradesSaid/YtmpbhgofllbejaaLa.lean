/- Loops of printed functions, in plain terms. -/
import Derived.Test.YtmpbhgofllbejaaGa
set_option linter.unusedVariables false
set_option linter.unusedSimpArgs false
set_option linter.unusedVariables false
set_option linter.unusedSimpArgs false
namespace Go.Ax
open Go
theorem wsucc {i : Nat} (h : i < 2 ^ 60) : IntKind.i64.wrap ((i : Int) + 1) = ((i + 1 : Nat) : Int) := by rw [i64_wrap _ (by omega) (by omega)]; omega
theorem wpred {i : Nat} (h : i < 2 ^ 60) : IntKind.i64.wrap ((i : Int) - 1) = (i : Int) - 1 := i64_wrap _ (by omega) (by omega)
theorem FUEL_big {n : Nat} (h : n < 2 ^ 59) : n < FUEL := by unfold FUEL; omega
theorem rd_nat {α : Type} [Inhabited α] (l : List α) (i : Nat) : rd l (i : Int) = l[i]?.getD default := by simp [rd]
theorem rd_get {α : Type} [Inhabited α] (l : List α) {i : Nat} (h : i < l.length) : rd l (i : Int) = l[i] := by simp [rd, h]
/-- A loop that tells r at the first bad place. -/
theorem loop_all {σ ρ : Type} (L : Nat → Int → Option (Flow σ ρ)) (n : Nat) (P : Nat → Bool) (r : ρ) (e : σ) (h0 : ∀ k (i : Nat), i < n → P i = true → L (k + 1) i = L k ((i + 1 : Nat) : Int))
    (h1 : ∀ k (i : Nat), i < n → P i = false → L (k + 1) i = some (.ret r)) (h2 : ∀ k, L (k + 1) (n : Int) = some (.out e)) (hn : n < 2 ^ 59) :
    L FUEL 0 = some (if (List.range n).all P = true then .out e else .ret r) := by
  have key : ∀ (d i k : Nat), i + d = n → d < k → L k (i : Int) = some (if (List.range' i d).all P = true then .out e else .ret r) := by
    intro d
    induction d with
    | zero =>
      intro i k hi hk
      obtain ⟨k, rfl⟩ : ∃ m, k = m + 1 := ⟨k - 1, by omega⟩
      have : i = n := by omega
      subst this
      rw [h2]; simp
    | succ d ih =>
      intro i k hi hk
      obtain ⟨k, rfl⟩ : ∃ m, k = m + 1 := ⟨k - 1, by omega⟩
      cases hp : P i with
      | true => rw [h0 k i (by omega) hp, ih (i + 1) k (by omega) (by omega), List.range'_succ, List.all_cons, hp, Bool.true_and]
      | false => rw [h1 k i (by omega) hp, List.range'_succ, List.all_cons, hp, Bool.false_and]; rfl
  have := key n 0 FUEL (by omega) (FUEL_big hn)
  rw [← List.range_eq_range'] at this
  exact this
/-- n steps. -/
def itr {σ : Type} (g : Nat → σ → σ) : Nat → σ → σ
  | 0, s => s
  | n + 1, s => g n (itr g n s)
/-- A loop that goes through to its end. -/
theorem loop_fold {σ R : Type} (L : Nat → Int → σ → Option R) (n : Nat) (g : Nat → σ → σ) (I : Nat → σ → Prop) (E : σ → R) (s0 : σ)
    (hs : ∀ k (i : Nat) s, i < n → I i s → L (k + 1) i s = L k ((i + 1 : Nat) : Int) (g i s) ∧ I (i + 1) (g i s)) (he : ∀ k s, I n s → L (k + 1) (n : Int) s = some (E s)) (h0 : I 0 s0) (hn : n < 2 ^ 59) :
    L FUEL 0 s0 = some (E (itr g n s0)) ∧ I n (itr g n s0) := by
  have inv : ∀ i, i ≤ n → I i (itr g i s0) := by
    intro i
    induction i with
    | zero => intro _; exact h0
    | succ i ih => intro hi; exact (hs 0 i _ (by omega) (ih (by omega))).2
  have key : ∀ (d i k : Nat), i + d = n → d < k → L k (i : Int) (itr g i s0) = some (E (itr g n s0)) := by
    intro d
    induction d with
    | zero =>
      intro i k hi hk
      obtain ⟨k, rfl⟩ : ∃ m, k = m + 1 := ⟨k - 1, by omega⟩
      have : i = n := by omega
      subst this
      exact he k _ (inv i (by omega))
    | succ d ih =>
      intro i k hi hk
      obtain ⟨k, rfl⟩ : ∃ m, k = m + 1 := ⟨k - 1, by omega⟩
      rw [(hs k i _ (by omega) (inv i (by omega))).1]
      exact ih (i + 1) k (by omega) (by omega)
  exact ⟨key n 0 FUEL (by omega) (FUEL_big hn), inv n (Nat.le_refl n)⟩
/-- A loop that goes through, or stops at some place with an answer. -/
theorem loop_find {σ ρ : Type} (L : Nat → Int → Option (Flow σ ρ)) (n : Nat) (P : Nat → Bool) (r : Nat → ρ) (e : σ) (h0 : ∀ k (i : Nat), i < n → P i = false → L (k + 1) i = L k ((i + 1 : Nat) : Int))
    (h1 : ∀ k (i : Nat), i < n → P i = true → L (k + 1) i = some (.ret (r i))) (h2 : ∀ k, L (k + 1) (n : Int) = some (.out e)) (hn : n < 2 ^ 59) :
    L FUEL 0 = some (match (List.range n).find? P with | some i => .ret (r i) | none => .out e) := by
  have key : ∀ (d i k : Nat), i + d = n → d < k → L k (i : Int) = some (match (List.range' i d).find? P with | some i => .ret (r i) | none => .out e) := by
    intro d
    induction d with
    | zero =>
      intro i k hi hk
      obtain ⟨k, rfl⟩ : ∃ m, k = m + 1 := ⟨k - 1, by omega⟩
      have : i = n := by omega
      subst this
      rw [h2]; simp
    | succ d ih =>
      intro i k hi hk
      obtain ⟨k, rfl⟩ : ∃ m, k = m + 1 := ⟨k - 1, by omega⟩
      cases hp : P i with
      | false => rw [h0 k i (by omega) hp, ih (i + 1) k (by omega) (by omega), List.range'_succ, List.find?_cons, hp]
      | true => rw [h1 k i (by omega) hp, List.range'_succ, List.find?_cons, hp]
  have := key n 0 FUEL (by omega) (FUEL_big hn)
  rw [← List.range_eq_range'] at this
  exact this
theorem flow_if {σ ρ : Type} (c : Prop) [Decidable c] (e : σ) (r : ρ) (k : σ → Option ρ) : ((if c then Flow.out e else Flow.ret r : Flow σ ρ).go k) = if c then k e else some r := by split <;> rfl
theorem ifr {α : Type} {c : Prop} [Decidable c] {A B r : α} (h1 : c → A = r) (h2 : ¬c → B = r) : (if c then A else B) = r := by
  by_cases h : c
  · rw [if_pos h]; exact h1 h
  · rw [if_neg h]; exact h2 h
theorem all_range_iff {n : Nat} {P : Nat → Bool} : (List.range n).all P = true ↔ ∀ i, i < n → P i = true := by simp [List.all_eq_true]
theorem bigOk_of {z : Int} (h : z.natAbs < 2 ^ 250) : BigOk z := by
  have : (2 : Nat) ^ 250 ≤ BB ^ 12 := by decide
  unfold BigOk; omega
end Go.Ax

/- What prices make of positions: the program's answers and the reference's are the same ones. -/
set_option linter.unusedVariables false
set_option linter.unusedSimpArgs false
set_option maxRecDepth 100000
set_option maxHeartbeats 4000000
namespace Go.Ax
open Go
theorem all_congr_prefix {n : Nat} {P Q : Nat → Bool} (h : ∀ i, i < n → (∀ j, j < i → P j = true) → P i = Q i) : (List.range n).all P = (List.range n).all Q := by
  induction n with
  | zero => rfl
  | succ n ih =>
    have ih := ih fun i hi hp => h i (by omega) hp
    rw [List.range_succ, List.all_append, List.all_append, ih]
    cases e : (List.range n).all Q with
    | false => rfl
    | true =>
      rw [e] at ih
      simp only [List.all_cons, List.all_nil, Bool.and_true, Bool.true_and]
      exact h n (by omega) fun j hj => all_range_iff.1 ih j hj
theorem stock_key_eq (a b : Int) : stock_key.f a b = some (decide (0 ≤ a ∧ a ≤ 24 ∧ 0 ≤ b ∧ b < 6)) := by
  unfold stock_key.f
  by_cases h1 : a ≥ 0 <;> by_cases h2 : a ≤ 24 <;> by_cases h3 : b ≥ 0 <;> simp [h1, h2, h3] <;> omega
def posBase (x : api_Pos) : Prop := 0 ≤ x.Acc ∧ x.Acc ≤ 24 ∧ 0 ≤ x.Inst ∧ x.Inst < 6 ∧ x.Q ≠ 0 ∧ x.Q ≠ -9223372036854775808
instance (x : api_Pos) : Decidable (posBase x) := by unfold posBase; infer_instance
def ordI (x p : api_Pos) : Int := if ¬(x.Acc = p.Acc) then IntKind.i64.wrap (x.Acc - p.Acc) else IntKind.i64.wrap (x.Inst - p.Inst)
theorem stock_order_eq (x p : api_Pos) : stock_order.f x.Acc x.Inst p = some (ordI x p) := by
  unfold stock_order.f ordI
  split <;> rfl
def posP (l : List api_Pos) (i : Nat) : Bool := decide (posBase (rd l (i : Int)) ∧ (0 < i → 0 < ordI (rd l (i : Int)) (rd l ((i : Int) - 1))))
def posQ (l : List api_Pos) (i : Nat) : Bool := decide (posBase (rd l (i : Int)) ∧ (0 < i → (rd l ((i : Int) - 1)).Acc < (rd l (i : Int)).Acc ∨ (rd l ((i : Int) - 1)).Acc = (rd l (i : Int)).Acc ∧ (rd l ((i : Int) - 1)).Inst < (rd l (i : Int)).Inst))
def stockOk (l : List api_Pos) : Bool := (List.range l.length).all (posQ l)
theorem posP_posQ (l : List api_Pos) : (List.range l.length).all (posP l) = stockOk l := by
  refine all_congr_prefix fun i hi hp => ?_
  unfold posP posQ
  by_cases hb : posBase (rd l (i : Int))
  · by_cases h0 : 0 < i
    · have hprev := hp (i - 1) (by omega)
      unfold posP at hprev
      have hprev := (of_decide_eq_true hprev).1
      rw [show ((i - 1 : Nat) : Int) = (i : Int) - 1 by omega] at hprev
      generalize rd l ((i : Int) - 1) = p at *
      generalize rd l (i : Int) = x at *
      have hb' := hb
      unfold posBase at hb' hprev
      have e1 : IntKind.i64.wrap (x.Acc - p.Acc) = x.Acc - p.Acc := i64_wrap _ (by omega) (by omega)
      have e2 : IntKind.i64.wrap (x.Inst - p.Inst) = x.Inst - p.Inst := i64_wrap _ (by omega) (by omega)
      simp only [hb, true_and, h0, forall_const, ordI, e1, e2]
      rw [decide_eq_decide]
      split <;> omega
    · simp [hb, h0]
  · simp [hb]
theorem stock_Right_eq (l : List api_Pos) (hl : l.length < 2 ^ 59) : stock_Right.f l = some (stockOk l) := by
  have h := loop_all (fun k i => stock_Right.l0 l k i) l.length (posP l) false (l.length : Int) (fun k i hi hp => ?_) (fun k i hi hp => ?_) (fun k => ?_) hl
  · unfold stock_Right.f
    rw [h, posP_posQ]
    simp only [Option.bind_some, flow_if]
    cases stockOk l <;> rfl
  · have e1 := wsucc (i := i) (by omega)
    have e2 := wpred (i := i) (by omega)
    unfold posP at hp
    obtain ⟨hb, ho⟩ := of_decide_eq_true hp
    unfold posBase at hb
    simp only [stock_Right.l0, stock_key_eq, stock_order_eq, stock_Quantity.f, Option.bind_some, e1, e2, decide_eq_true_eq, bne_iff_ne]
    rw [if_pos (by omega), if_pos (by omega), if_neg (by omega), if_neg (by omega), if_neg (by simp; omega)]
    by_cases h0 : 0 < i
    · rw [if_pos (by omega), if_pos (by omega), if_neg (by have := ho h0; omega)]
    · rw [if_neg (by omega)]
  · have e1 := wsucc (i := i) (by omega)
    have e2 := wpred (i := i) (by omega)
    unfold posP at hp
    have hp := of_decide_eq_false hp
    unfold posBase at hp
    simp only [stock_Right.l0, stock_key_eq, stock_order_eq, stock_Quantity.f, Option.bind_some, e1, e2, decide_eq_true_eq, bne_iff_ne]
    rw [if_pos (by omega), if_pos (by omega)]
    repeat' split
    all_goals first | rfl | (exfalso; simp only [ne_eq, Classical.not_not, gt_iff_lt] at *; omega)
  · simp only [stock_Right.l0]; rw [if_neg (by omega)]
theorem rStock_eq (l : List api_Pos) (hl : l.length < 2 ^ 59) : novationref10_Stock.f l = some (stockOk l) := by
  have h := loop_all (fun k i => novationref10_Stock.l0 l k i) l.length (posQ l) false (l.length : Int) (fun k i hi hp => ?_) (fun k i hi hp => ?_) (fun k => ?_) hl
  · unfold novationref10_Stock.f
    rw [h]
    simp only [Option.bind_some, flow_if]
    unfold stockOk
    cases (List.range l.length).all (posQ l) <;> rfl
  · have e1 := wsucc (i := i) (by omega)
    have e2 := wpred (i := i) (by omega)
    unfold posQ at hp
    obtain ⟨hb, ho⟩ := of_decide_eq_true hp
    unfold posBase at hb
    rw [novationref10_Stock.l0, e1, e2]
    rw [if_pos (by omega), if_pos (by omega)]
    repeat' split
    all_goals first | rfl | (exfalso; omega)
  · have e1 := wsucc (i := i) (by omega)
    have e2 := wpred (i := i) (by omega)
    unfold posQ at hp
    have hp := of_decide_eq_false hp
    unfold posBase at hp
    rw [novationref10_Stock.l0, e1, e2]
    rw [if_pos (by omega), if_pos (by omega)]
    repeat' split
    all_goals first | rfl | (exfalso; omega)
  · simp only [novationref10_Stock.l0]; rw [if_neg (by omega)]
def priceOk (p : Int) : Bool := decide (1 ≤ p ∧ p ≤ 1000000000000)
theorem mark_Price_eq (p : Int) : mark_Price.f p = some (priceOk p) := by
  unfold mark_Price.f priceOk
  by_cases h : p ≥ 1 <;> simp [h]
theorem rprice_eq (p : Int) : novationref15_price.f p = some (priceOk p) := by
  unfold novationref15_price.f priceOk
  by_cases h : p ≥ 1 <;> simp [h]
theorem mark_known : novationlaw15_known.f = some true := by decide +kernel
/-- An account's row. -/
def rowK (a : Int) : Int := if a = 0 then 2 else 5
def mkE (a x : Int) : api_Entry := ⟨rowK a, a, x⟩
def mkP (a x : Int) : novationref10_Part := ⟨rowK a, a, x⟩
theorem mark_entry_eq (a x : Int) : mark_entry.f a x = some (mkE a x) := by
  unfold mark_entry.f mkE rowK
  by_cases h : a = 0 <;> simp [h]
theorem rRow_eq (a : Int) : novationref15_Row.f a = some (rowK a, a) := by
  unfold novationref15_Row.f rowK
  by_cases h : a = 0 <;> simp [h]
/-- Who is moved, and by how much. -/
def flows (l : List api_Pos) (inst d : Int) (n : Nat) : List (Int × Int) := ((List.range n).filter fun j : Nat => decide ((rd l (j : Int)).Inst = inst ∧ d ≠ 0)).map fun j : Nat => ((rd l (j : Int)).Acc, (rd l (j : Int)).Q * d)
theorem flows_succ (l : List api_Pos) (inst d : Int) (n : Nat) : flows l inst d (n + 1) = flows l inst d n ++ (if (rd l (n : Int)).Inst = inst ∧ d ≠ 0 then [((rd l (n : Int)).Acc, (rd l (n : Int)).Q * d)] else []) := by
  unfold flows
  rw [List.range_succ, List.filter_append, List.map_append]
  congr 1
  by_cases h : (rd l (n : Int)).Inst = inst ∧ d ≠ 0
  · simp only [List.filter_cons, decide_eq_true_eq, List.filter_nil]
    rw [if_pos h, if_pos h]
    rfl
  · simp only [List.filter_cons, decide_eq_true_eq, List.filter_nil]
    rw [if_neg h, if_neg h]
    rfl
theorem flows_len (l : List api_Pos) (inst d : Int) (n : Nat) : (flows l inst d n).length ≤ n := by
  unfold flows
  rw [List.length_map]
  have := List.length_filter_le (fun j : Nat => decide ((rd l (j : Int)).Inst = inst ∧ d ≠ 0)) (List.range n)
  simpa using this
def PosI (l : List api_Pos) : Prop := ∀ i, i < l.length → I64 (rd l (i : Int)).Q
theorem priceOk_of {p : Int} (h : priceOk p = true) : 1 ≤ p ∧ p ≤ 1000000000000 := of_decide_eq_true h
theorem mark_Flows_eq {l : List api_Pos} (inst old now : Int) (hl : l.length < 2 ^ 32) (hI : PosI l) :
    mark_Flows.f l inst old now = some (if (stockOk l && (priceOk old && priceOk now)) = true then ((flows l inst (now - old) l.length).map fun x => mkE x.1 x.2, 0) else ([], 1)) := by
  unfold mark_Flows.f
  rw [stock_Right_eq l (by omega)]
  simp only [mark_Price_eq, Option.bind_some]
  cases h1 : stockOk l <;> simp only [Bool.false_eq_true, not_false_eq_true, not_true_eq_false, if_true, if_false, Bool.false_and, Bool.true_and]
  cases h2 : priceOk old <;> simp only [Bool.false_eq_true, not_false_eq_true, not_true_eq_false, if_true, if_false, Bool.false_and, Bool.true_and]
  cases h3 : priceOk now <;> simp only [Bool.false_eq_true, not_false_eq_true, not_true_eq_false, if_true, if_false, Bool.false_and, Bool.true_and]
  have p1 := priceOk_of h2
  have p2 := priceOk_of h3
  have e3 : IntKind.i64.wrap (now - old) = now - old := i64_wrap _ (by omega) (by omega)
  have := (loop_fold (fun k i s => mark_Flows.l0 l inst old now k s i) l.length (fun i s => s ++ (if (rd l (i : Int)).Inst = inst ∧ now - old ≠ 0 then [mkE (rd l (i : Int)).Acc ((rd l (i : Int)).Q * (now - old))] else [])) (fun i s => s = (flows l inst (now - old) i).map fun x => mkE x.1 x.2) (fun s => (s, (l.length : Int))) []
    (fun k i s hi hs => ?_) (fun k s hs => ?_) rfl (by omega))
  · obtain ⟨e1, e2⟩ := this
    rw [e2] at e1
    rw [e1]
    rfl
  · have e1 := wsucc (i := i) (by omega)
    have hq := hI i hi
    have hlen := flows_len l inst (now - old) i
    refine ⟨?_, by
      rw [hs, flows_succ, List.map_append]
      congr 1
      split <;> rfl⟩
    rw [mark_Flows.l0, e1, if_pos (by omega), if_pos (by omega)]
    by_cases c1 : (rd l (i : Int)).Inst = inst
    · rw [if_pos c1]
      by_cases c2 : now = old
      · rw [if_neg (by simp [c2]), if_neg (by omega), List.append_nil]
      · rw [if_pos c2, if_pos ⟨c1, by omega⟩, e3]
        unfold wide_Mul.f
        rw [if_pos ⟨hq, by simp only [I64]; omega⟩, Option.bind_some, mark_entry_eq, Option.bind_some, if_pos (by rw [hs, List.length_map]; omega)]
    · rw [if_neg c1, if_neg (fun h => c1 h.1), List.append_nil]
  · rw [mark_Flows.l0, if_neg (by omega)]
theorem rd_map {α β : Type} [Inhabited α] [Inhabited β] (f : α → β) (l : List α) {i : Nat} (h : i < l.length) : rd (l.map f) (i : Int) = f (rd l (i : Int)) := by
  rw [rd_get _ (by simpa using h), rd_get _ h, List.getElem_map]
theorem hEntries_eq (l : List (Int × Int)) (hl : l.length < 2 ^ 59) (hw : ∀ x ∈ l, Wid x.2 ∧ BigOk x.2) : novationhelp_Entries.f (l.map fun x => mkE x.1 x.2) (l.map fun x => mkP x.1 x.2) = some true := by
  unfold novationhelp_Entries.f
  rw [if_neg (by simp)]
  have h := loop_all (fun k i => novationhelp_Entries.l0 (l.map fun x => mkE x.1 x.2) (l.map fun x => mkP x.1 x.2) k i) l.length (fun _ => true) false (l.length : Int) (fun k i hi hp => ?_) (fun k i hi hp => by cases hp) (fun k => ?_) hl
  · rw [h]
    simp [Flow.go]
  · have e1 := wsucc (i := i) (by omega)
    have hx := hw (rd l (i : Int)) (by rw [rd_get l hi]; exact List.getElem_mem _)
    have a1 : ((l.map fun x => mkE x.1 x.2).length : Int) = (l.length : Int) := by simp
    have a2 : ((l.map fun x => mkP x.1 x.2).length : Int) = (l.length : Int) := by simp
    rw [novationhelp_Entries.l0, e1, a1, a2, if_pos (by omega), if_pos (by omega), if_pos (by omega), rd_map _ l hi, rd_map _ l hi]
    simp only [mkE, mkP, not_true_eq_false, if_false, novationhelp_Wide.f]
    rw [if_pos hx]
    simp
  · rw [novationhelp_Entries.l0, if_neg (by simp)]
end Go.Ax

/- The deck of a seat: it always answers. -/
set_option linter.unusedVariables false
set_option linter.unusedSimpArgs false
set_option maxRecDepth 100000
set_option maxHeartbeats 4000000
namespace Go.Ax
open Go
theorem rd_memD {α : Type} [Inhabited α] {l : List α} {i : Nat} (h : i < l.length) : rd l (i : Int) ∈ l := by rw [rd_get l h]; exact List.getElem_mem _
/-- It answers, and the answer is such. -/
def Tot {β : Type} (m : Option β) (P : β → Prop) : Prop := ∃ b, m = some b ∧ P b
theorem Tot.bind {α β : Type} {m : Option α} {P : α → Prop} {f : α → Option β} {Q : β → Prop} (h : Tot m P) (h2 : ∀ a, P a → Tot (f a) Q) : Tot (m.bind f) Q := by
  obtain ⟨a, rfl, ha⟩ := h
  exact h2 a ha
theorem Tot.ite {β : Type} {c : Prop} [Decidable c] {a b : Option β} {Q : β → Prop} (h1 : c → Tot a Q) (h2 : ¬c → Tot b Q) : Tot (if c then a else b) Q := by
  by_cases h : c
  · rw [if_pos h]; exact h1 h
  · rw [if_neg h]; exact h2 h
theorem Tot.some {β : Type} {b : β} {Q : β → Prop} (h : Q b) : Tot (some b) Q := ⟨b, rfl, h⟩
theorem Tot.mono {β : Type} {m : Option β} {P Q : β → Prop} (h : Tot m P) (h2 : ∀ b, P b → Q b) : Tot m Q := by
  obtain ⟨b, e, hb⟩ := h
  exact ⟨b, e, h2 b hb⟩
/-- A deck from which at most n cards were taken. -/
def DK (n : Nat) (d : novationseat_Deck) : Prop := (∀ y ∈ d.L, 0 ≤ y ∧ y < 18446744073709551616) ∧ 0 ≤ d.f_i ∧ d.f_i ≤ (n : Int)
theorem DK.mono {n m : Nat} {d : novationseat_Deck} (h : DK n d) (hm : n ≤ m) : DK m d := ⟨h.1, h.2.1, by have := h.2.2; omega⟩
theorem wrapI (z : Int) : I64 (IntKind.i64.wrap z) := by
  obtain ⟨k, _, h1, h2⟩ := i64_char z
  unfold I64; omega
theorem u64_small {z : Int} (h1 : 0 ≤ z) (h2 : z < 18446744073709551616) : IntKind.u64.wrap z = z := by
  have e1 : (2 : Int) ^ 64 = 18446744073709551616 := by decide
  simp only [IntKind.wrap, IntKind.bits, IntKind.signed, e1, Bool.false_and, Bool.false_eq_true, if_false]
  omega
theorem tmod_range {z m : Int} (h : 0 ≤ z) (hm : 0 < m) : 0 ≤ z.tmod m ∧ z.tmod m < m := by
  rw [Int.tmod_eq_emod_of_nonneg h]
  exact ⟨Int.emod_nonneg _ (by omega), Int.emod_lt_of_pos _ hm⟩
theorem Next_T {n : Nat} {d : novationseat_Deck} (hd : DK n d) (hn : n < 2 ^ 60) : Tot (novationseat_Deck_Next.f d) (fun r => (0 ≤ r.1 ∧ r.1 < 18446744073709551616) ∧ DK (n + 1) r.2) := by
  obtain ⟨h1, h2, h3⟩ := hd
  have e1 : IntKind.i64.wrap (d.f_i + 1) = d.f_i + 1 := i64_wrap _ (by omega) (by omega)
  unfold novationseat_Deck_Next.f
  rw [e1]
  refine Tot.ite (fun h => ?_) (fun h => Tot.some ⟨⟨Int.le_refl 0, (by decide : (0 : Int) < 18446744073709551616)⟩, h1, by simp only; omega, by simp only; omega⟩)
  rw [if_pos ⟨h2, h⟩]
  refine Tot.some ⟨?_, h1, by simp only; omega, by simp only; omega⟩
  obtain ⟨i, hi⟩ := Int.eq_ofNat_of_zero_le h2
  rw [hi]
  exact h1 _ (rd_memD (by omega))
theorem N_T {n : Nat} {d : novationseat_Deck} (hd : DK n d) (hn : n < 2 ^ 60) {m : Int} (h0 : 0 < m) (hm : m < 9223372036854775808) : Tot (novationseat_Deck_N.f d m) (fun r => (0 ≤ r.1 ∧ r.1 < m) ∧ DK (n + 1) r.2) := by
  unfold novationseat_Deck_N.f
  refine (Next_T hd hn).bind fun y hy => ?_
  rw [u64_small (by omega) (by omega), if_pos (by omega)]
  have h := tmod_range hy.1.1 h0
  refine Tot.some ⟨?_, hy.2⟩
  simp only
  rw [i64_wrap _ (by omega) (by omega)]
  exact h
theorem Yes_T {n : Nat} {d : novationseat_Deck} (hd : DK n d) (hn : n < 2 ^ 60) {m : Int} (h0 : 0 < m) (hm : m < 9223372036854775808) : Tot (novationseat_Deck_Yes.f d m) (fun r => DK (n + 1) r.2) := by
  unfold novationseat_Deck_Yes.f
  exact (N_T hd hn h0 hm).bind fun y hy => Tot.some hy.2
theorem Some_T {n : Nat} {d : novationseat_Deck} (hd : DK n d) (hn : n < 2 ^ 60) : Tot (novationseat_Deck_Some.f d) (fun r => (0 ≤ r.1 ∧ r.1 < 9223372036854775808) ∧ DK (n + 1) r.2) := by
  unfold novationseat_Deck_Some.f
  refine (Next_T hd hn).bind fun y hy => ?_
  have e1 : (2 : Int) ^ min (Int.toNat 1) (IntKind.bits .u64) = 2 := by decide
  have e3 : (2 : Int) ^ min (Int.toNat 3) (IntKind.bits .u64) = 8 := by decide
  rw [e1, e3, Int.fdiv_eq_ediv_of_nonneg _ (by decide), Int.fdiv_eq_ediv_of_nonneg _ (by decide)]
  have h8 : 0 ≤ y.1 / 8 := by have := hy.1.1; omega
  have g1 := tmod_range h8 (show (0 : Int) < 1000000000000 by decide)
  have g2 := tmod_range h8 (show (0 : Int) < 2 by decide)
  have g3 := tmod_range h8 (show (0 : Int) < 5000 by decide)
  have := hy.1
  refine Tot.ite (fun _ => Tot.some ⟨?_, hy.2⟩) (fun _ => Tot.ite (fun _ => Tot.some ⟨?_, hy.2⟩) (fun _ => Tot.ite (fun _ => Tot.some ⟨?_, hy.2⟩) (fun _ => Tot.some ⟨?_, hy.2⟩)))
  all_goals (simp only; rw [i64_wrap _ (by omega) (by omega)]; omega)
theorem tmodI {z m : Int} (h : 0 ≤ z) (h0 : 0 < m) (hm : m < 9223372036854775808) : I64 (z.tmod m) := by
  have := tmod_range h h0
  unfold I64; omega
theorem I64_ite {c : Prop} [Decidable c] {a b : Int} (ha : I64 a) (hb : I64 b) : I64 (if c then a else b) := by split <;> assumption
def CfgI (c : api_Config) : Prop := (∀ y ∈ c.Insts, api_Inst.ok y) ∧ c.Insts ≠ [] ∧ c.Insts.length ≤ 6
theorem CfgI.pos {c : api_Config} (h : CfgI c) : 0 < (c.Insts.length : Int) ∧ (c.Insts.length : Int) ≤ 6 := by
  have h1 := h.2.1
  have h2 := h.2.2
  cases e : c.Insts with
  | nil => exact absurd e h1
  | cons x r => rw [e] at h2; simp only [List.length_cons] at h2 ⊢; omega
theorem inst_price {c : api_Config} (h : CfgI c) {i : Int} (h1 : 0 ≤ i) (h2 : i < (c.Insts.length : Int)) : I64 (rd c.Insts i).Price := by
  obtain ⟨j, rfl⟩ := Int.eq_ofNat_of_zero_le h1
  exact (h.1 _ (rd_memD (by omega))).2.1
theorem mark_T {n : Nat} {d : novationseat_Deck} (hd : DK n d) (hn : n < 2 ^ 59) {c : api_Config} (hc : CfgI c) {i : Int} (h1 : 0 ≤ i) (h2 : i < (c.Insts.length : Int)) : Tot (novationseat_Deck_mark.f d c i) (fun r => api_Event.ok r.1 ∧ DK (n + 3) r.2) := by
  have hp := hc.pos
  unfold novationseat_Deck_mark.f
  rw [if_pos ⟨h1, h2⟩]
  repeat' (first
  | refine Tot.ite (fun _ => ?_) (fun _ => ?_)
  | (refine (N_T (by assumption) (by omega) (by omega) (by omega)).bind fun _ h => ?_; obtain ⟨⟨_, _⟩, _⟩ := h)
  | (refine (Yes_T (by assumption) (by omega) (by omega) (by omega)).bind fun _ _ => ?_)
  | (refine (Some_T (by assumption) (by omega)).bind fun _ h => ?_; obtain ⟨⟨_, _⟩, _⟩ := h))
  all_goals refine Tot.some ⟨?_, by first | assumption | exact DK.mono (by assumption) (by omega)⟩
  all_goals (unfold api_Event.ok; dsimp only; refine ⟨?_, ?_, ?_, ?_, ?_, ?_, ?_, ?_⟩ <;> (first | assumption | exact wrapI _ | (unfold I64; omega) | exact tmodI (by assumption) (by decide) (by decide) | (refine I64_ite ?_ ?_ <;> first | exact wrapI _ | (unfold I64; omega) | (refine I64_ite ?_ ?_ <;> first | exact wrapI _ | (unfold I64; omega)))))
theorem order_T {n : Nat} {d : novationseat_Deck} (hd : DK n d) (hn : n < 2 ^ 59) {c : api_Config} (hc : CfgI c) : Tot (novationseat_Deck_order.f d c) (fun r => api_Event.ok r.1 ∧ DK (n + 8) r.2) := by
  have hp := hc.pos
  unfold novationseat_Deck_order.f
  repeat' (first
  | refine Tot.ite (fun _ => ?_) (fun _ => ?_)
  | (refine (N_T (by assumption) (by omega) (by omega) (by omega)).bind fun _ h => ?_; obtain ⟨⟨_, _⟩, _⟩ := h)
  | (refine (Yes_T (by assumption) (by omega) (by omega) (by omega)).bind fun _ _ => ?_)
  | (refine (Some_T (by assumption) (by omega)).bind fun _ h => ?_; obtain ⟨⟨_, _⟩, _⟩ := h))
  all_goals first
    | (exfalso; omega)
    | skip
  all_goals refine Tot.some ⟨?_, by first | assumption | exact DK.mono (by assumption) (by omega)⟩
  all_goals (unfold api_Event.ok; dsimp only; refine ⟨?_, ?_, ?_, ?_, ?_, ?_, ?_, ?_⟩ <;> (first | assumption | exact wrapI _ | (unfold I64; omega) | exact tmodI (by assumption) (by decide) (by decide) | (refine I64_ite ?_ ?_ <;> first | exact wrapI _ | (unfold I64; omega) | (refine I64_ite ?_ ?_ <;> first | exact wrapI _ | (unfold I64; omega)))))
theorem Event_T {n : Nat} {d : novationseat_Deck} (hd : DK n d) (hn : n < 2 ^ 58) {c : api_Config} (hc : CfgI c) : Tot (novationseat_Deck_Event.f d c) (fun r => api_Event.ok r.1 ∧ DK (n + 12) r.2) := by
  have hp := hc.pos
  unfold novationseat_Deck_Event.f
  repeat' (first
  | (first
    | refine Tot.ite (fun _ => ?_) (fun _ => ?_)
    | (refine (N_T (by assumption) (by omega) (by omega) (by omega)).bind fun _ h => ?_; obtain ⟨⟨_, _⟩, _⟩ := h)
    | (refine (Yes_T (by assumption) (by omega) (by omega) (by omega)).bind fun _ _ => ?_)
    | (refine (Some_T (by assumption) (by omega)).bind fun _ h => ?_; obtain ⟨⟨_, _⟩, _⟩ := h))
  | (refine (mark_T (by assumption) (by omega) hc (by assumption) (by assumption)).bind fun _ h => ?_; obtain ⟨_, _⟩ := h)
  | (refine (order_T (by assumption) (by omega) hc).bind fun _ h => ?_; obtain ⟨_, _⟩ := h))
  all_goals first
    | (exfalso; omega)
    | skip
  all_goals refine Tot.some ⟨?_, by first | assumption | exact DK.mono (by assumption) (by omega)⟩
  all_goals first
    | assumption
    | (unfold api_Event.ok; dsimp only; refine ⟨?_, ?_, ?_, ?_, ?_, ?_, ?_, ?_⟩ <;> first | (first | assumption | exact wrapI _ | (unfold I64; omega) | exact tmodI (by assumption) (by decide) (by decide) | (refine I64_ite ?_ ?_ <;> first | exact wrapI _ | (unfold I64; omega) | (refine I64_ite ?_ ?_ <;> first | exact wrapI _ | (unfold I64; omega)))) | exact inst_price hc (by assumption) (by assumption))
end Go.Ax

/- The deck of a seat: a configuration. -/
set_option linter.unusedVariables false
set_option linter.unusedSimpArgs false
set_option maxRecDepth 100000
set_option maxHeartbeats 4000000
namespace Go.Ax
open Go
def InstsI (l : List api_Inst) : Prop := ∀ y ∈ l, api_Inst.ok y
theorem InstsI.add {l : List api_Inst} (h : InstsI l) {x : api_Inst} (hx : api_Inst.ok x) : InstsI (l ++ [x]) := by
  intro y hy
  rcases List.mem_append.1 hy with hy | hy
  · exact h y hy
  · rw [List.mem_singleton.1 hy]; exact hx
theorem Config_l0_T : ∀ (c n q : Nat) (d : novationseat_Deck) (x : api_Config), c ≤ 4 → c < q → DK n d → n + 12 * c < 2 ^ 59 → InstsI x.Insts → x.Insts.length + c ≤ 8 → x.Skin = 0 → x.Times = 0 → x.Port = 0 → x.Bid = 0 → x.LotSize = 0 → x.HedgeMin = 0 →
    Tot (novationseat_Deck_Config.l0 q d x (c : Int)) (fun r => DK (n + 12 * c) r.1 ∧ InstsI r.2.1.Insts ∧ r.2.1.Insts.length = x.Insts.length + c) := by
  intro c
  induction c with
  | zero =>
    intro n q d x _ hq hd _ hI _ _ _ _ _ _ _
    obtain ⟨q, rfl⟩ : ∃ m, q = m + 1 := ⟨q - 1, by omega⟩
    simp only [novationseat_Deck_Config.l0]
    rw [if_neg (by omega)]
    exact Tot.some ⟨hd, hI, rfl⟩
  | succ c ih =>
    intro n q d x hc hq hd hn hI hl e1 e2 e3 e4 e5 e6
    obtain ⟨q, rfl⟩ : ∃ m, q = m + 1 := ⟨q - 1, by omega⟩
    have ec : IntKind.i64.wrap (((c + 1 : Nat) : Int) - 1) = (c : Int) := by rw [i64_wrap _ (by omega) (by omega)]; omega
    simp only [novationseat_Deck_Config.l0]
    rw [ec, if_pos (by omega)]
    have key : ∀ (m : Nat) (d' : novationseat_Deck) (y : api_Inst), DK m d' → m ≤ n + 12 → api_Inst.ok y →
        Tot (if x.Insts.length + 1 ≤ 100000000000 then novationseat_Deck_Config.l0 q d' (⟨x.Insts ++ [y], x.Skin, x.Times, x.Port, x.Bid, x.LotSize, x.HedgeMin⟩ : api_Config) (c : Int) else none) (fun r => DK (n + 12 * (c + 1)) r.1 ∧ InstsI r.2.1.Insts ∧ r.2.1.Insts.length = x.Insts.length + (c + 1)) := by
      intro m d' y hm hmn hy
      rw [if_pos (by omega)]
      have h := ih (n + 12) q d' (⟨x.Insts ++ [y], x.Skin, x.Times, x.Port, x.Bid, x.LotSize, x.HedgeMin⟩ : api_Config) (by omega) (by omega) (hm.mono hmn) (by omega) (hI.add hy) (by simp only [List.length_append, List.length_cons, List.length_nil]; omega) e1 e2 e3 e4 e5 e6
      refine h.mono fun r hr => ⟨hr.1.mono (by omega), hr.2.1, ?_⟩
      rw [hr.2.2]; simp; omega
    have dk_ : ∀ {m : Nat} {d' : novationseat_Deck}, DK m d' → m ≤ n + 12 → DK m d' := fun h _ => h
    refine (N_T hd (by omega) (by omega) (by omega)).bind fun a ha => ?_
    refine (N_T ha.2 (by omega) (by omega) (by omega)).bind fun b hb => ?_
    refine (N_T hb.2 (by omega) (by omega) (by omega)).bind fun g hg => ?_
    refine (N_T hg.2 (by omega) (by omega) (by omega)).bind fun k hk => ?_
    refine (Yes_T hk.2 (by omega) (by omega) (by omega)).bind fun u hu => ?_
    have ia : I64 a.1 := by unfold I64; omega
    have ig : I64 g.1 := by unfold I64; omega
    have ik : I64 k.1 := by unfold I64; omega
    refine Tot.ite (fun _ => ?_) (fun _ => ?_)
    · refine (Some_T hu (by omega)).bind fun s hs => ?_
      refine (Yes_T hs.2 (by omega) (by omega) (by omega)).bind fun v hv => ?_
      refine Tot.ite (fun _ => ?_) (fun _ => ?_)
      · refine (Some_T hv (by omega)).bind fun w hw => ?_
        refine (Some_T hw.2 (by omega)).bind fun z hz => ?_
        exact key _ _ _ hz.2 (by omega) ⟨ia, wrapI _, tmodI hw.1.1 (by decide) (by decide), tmodI hz.1.1 (by decide) (by decide)⟩
      · exact key _ _ _ hv (by omega) ⟨ia, wrapI _, ig, ik⟩
    · refine (Yes_T hu (by omega) (by omega) (by omega)).bind fun v hv => ?_
      refine Tot.ite (fun _ => ?_) (fun _ => ?_)
      · refine (Some_T hv (by omega)).bind fun w hw => ?_
        refine (Some_T hw.2 (by omega)).bind fun z hz => ?_
        exact key _ _ _ hz.2 (by omega) ⟨ia, wrapI _, tmodI hw.1.1 (by decide) (by decide), tmodI hz.1.1 (by decide) (by decide)⟩
      · exact key _ _ _ hv (by omega) ⟨ia, wrapI _, ig, ik⟩
theorem Config_T {n : Nat} {d : novationseat_Deck} (hd : DK n d) (hn : n < 2 ^ 58) : Tot (novationseat_Deck_Config.f d) (fun r => CfgI r.1 ∧ api_Config.ok r.1 ∧ DK (n + 60) r.2) := by
  unfold novationseat_Deck_Config.f
  refine (N_T hd (by omega) (by omega) (by omega)).bind fun a ha => ?_
  rw [i64_wrap _ (by omega) (by omega)]
  obtain ⟨c, hc⟩ := Int.eq_ofNat_of_zero_le (show 0 ≤ 1 + a.1 by omega)
  rw [hc]
  refine (Config_l0_T c (n + 1) FUEL a.2 _ (by omega) (by unfold FUEL; omega) ha.2 (by omega) (by intro y hy; cases hy) (by simp only [List.length_nil]; omega) rfl rfl rfl rfl rfl rfl).bind fun s hs => ?_
  obtain ⟨hs1, hs2, hs3⟩ := hs
  have hs1 := hs1.mono (show n + 1 + 12 * c ≤ n + 50 by omega)
  simp only [List.length_nil] at hs3
  refine (N_T hs1 (by omega) (by omega) (by omega)).bind fun b hb => ?_
  refine (N_T hb.2 (by omega) (by omega) (by omega)).bind fun g hg => ?_
  refine (N_T hg.2 (by omega) (by omega) (by omega)).bind fun k hk => ?_
  refine (N_T hk.2 (by omega) (by omega) (by omega)).bind fun u hu => ?_
  refine (N_T hu.2 (by omega) (by omega) (by omega)).bind fun v hv => ?_
  refine (N_T hv.2 (by omega) (by omega) (by omega)).bind fun w hw => ?_
  refine (Yes_T hw.2 (by omega) (by omega) (by omega)).bind fun y hy => ?_
  have hne : s.2.1.Insts ≠ [] := by intro h; rw [h] at hs3; simp only [List.length_nil] at hs3; omega
  have i1 : I64 b.1 := by unfold I64; omega
  have i2 : I64 g.1 := by unfold I64; omega
  have i3 : I64 k.1 := by unfold I64; omega
  have i4 : I64 u.1 := by unfold I64; omega
  have i5 : I64 w.1 := by unfold I64; omega
  refine Tot.ite (fun _ => ?_) (fun _ => ?_)
  · refine (Some_T hy (by omega)).bind fun z hz => ?_
    have i6 : I64 z.1 := by unfold I64; omega
    exact Tot.some ⟨⟨hs2, hne, by simp only; omega⟩, ⟨⟨hs2, by simp only; omega⟩, i6, i2, i3, i4, wrapI _, i5⟩, hz.2.mono (by omega)⟩
  · exact Tot.some ⟨⟨hs2, hne, by simp only; omega⟩, ⟨⟨hs2, by simp only; omega⟩, i1, i2, i3, i4, wrapI _, i5⟩, hy.mono (by omega)⟩
end Go.Ax

/- MarkTrades: what is told of a trade is true. -/
set_option linter.unusedVariables false
set_option linter.unusedSimpArgs false
set_option maxRecDepth 100000
set_option maxHeartbeats 4000000
namespace Go.Ax
open Go
def tradeP (t : api_Trade) : Prop := (0 ≤ t.Buy ∧ t.Buy ≤ 24) ∧ (0 ≤ t.Sell ∧ t.Sell ≤ 24) ∧ t.Buy ≠ t.Sell ∧ 0 ≤ t.Inst ∧ t.Inst < 6 ∧ 1 ≤ t.Q ∧ t.Q ≤ 1000000000 ∧ 1 ≤ t.P ∧ t.P ≤ 1000000000000
instance (t : api_Trade) : Decidable (tradeP t) := by unfold tradeP; infer_instance
theorem mark_Right_eq (t : api_Trade) : mark_Right.f t = some (decide (tradeP t)) := by
  have e0 : IntKind.i64.wrap (0 + 1) = 1 := by decide
  have e1 : IntKind.i64.wrap (1 + 1) = 2 := by decide
  have h0 : rd ([t.Buy, t.Sell] : List Int) 0 = t.Buy := rfl
  have h1 : rd ([t.Buy, t.Sell] : List Int) 1 = t.Sell := rfl
  obtain ⟨k, hk⟩ : ∃ k, FUEL = k + 3 := ⟨FUEL - 3, by unfold FUEL; omega⟩
  have hl : mark_Right.l0 t FUEL 0 = some (if (0 ≤ t.Buy ∧ t.Buy ≤ 24) ∧ (0 ≤ t.Sell ∧ t.Sell ≤ 24) then .out 2 else .ret false) := by
    rw [hk]
    simp only [mark_Right.l0, e0, e1, h0, h1]
    have hlen : (([t.Buy, t.Sell] : List Int).length : Int) = 2 := rfl
    rw [hlen]
    by_cases b : 0 ≤ t.Buy ∧ t.Buy ≤ 24
    · by_cases s : 0 ≤ t.Sell ∧ t.Sell ≤ 24
      · rw [if_pos (by omega), if_pos (by omega), if_pos (by omega), if_neg (by omega), if_neg (by omega), if_pos (by omega), if_pos (by omega), if_pos (by omega), if_neg (by omega), if_neg (by omega), if_neg (by omega), if_pos ⟨b, s⟩]
      · rw [if_pos (by omega), if_pos (by omega), if_pos (by omega), if_neg (by omega), if_neg (by omega), if_pos (by omega), if_pos (by omega), if_pos (by omega), if_neg (c := _ ∧ _) (fun h => s h.2)]
        by_cases s1 : t.Sell < 0
        · rw [if_pos s1]
        · rw [if_neg s1, if_pos (by omega)]
    · rw [if_pos (by omega), if_pos (by omega), if_pos (by omega), if_neg (c := _ ∧ _) (fun h => b h.1)]
      by_cases s1 : t.Buy < 0
      · rw [if_pos s1]
      · rw [if_neg s1, if_pos (by omega)]
  unfold mark_Right.f
  rw [hl, Option.bind_some]
  by_cases h : (0 ≤ t.Buy ∧ t.Buy ≤ 24) ∧ (0 ≤ t.Sell ∧ t.Sell ≤ 24)
  · rw [if_pos h, Flow.go_out, mark_Price_eq]
    unfold tradeP priceOk
    simp only [Option.bind_some]
    repeat' split
    all_goals (first | exact congrArg some (decide_eq_decide.2 (by omega)) | exact congrArg some (decide_eq_false (by omega)).symm)
  · rw [if_neg h, Flow.go_ret]
    exact congrArg some (decide_eq_false (by unfold tradeP; omega)).symm
theorem rRight_eq (t : api_Trade) : novationref15_RightTrade.f t = some (decide (tradeP t)) := by
  unfold novationref15_RightTrade.f tradeP
  rw [rprice_eq]
  unfold priceOk
  simp only [Option.bind_some]
  repeat' split
  all_goals (first | exact congrArg some (decide_eq_decide.2 (by omega)) | exact congrArg some (decide_eq_false (by omega)).symm)
/-- What a trade brings at a price. -/
def tflows (t : api_Trade) (p : Int) : List (Int × Int) := if p = t.P then [] else [(t.Buy, t.Q * (p - t.P)), (t.Sell, t.Q * (t.P - p))]
def tans (t : api_Trade) (p : Int) : List (Int × Int) × Int := if tradeP t ∧ priceOk p = true then (tflows t p, 0) else ([], 1)
theorem mul_le {q d : Int} (h1 : 1 ≤ q) (h2 : q ≤ 1000000000) (h3 : -1000000000000 ≤ d) (h4 : d ≤ 1000000000000) : (q * d).natAbs ≤ 1000000000000000000000 := by
  rw [Int.natAbs_mul]
  exact Nat.le_trans (Nat.mul_le_mul (show q.natAbs ≤ 1000000000 by omega) (show d.natAbs ≤ 1000000000000 by omega)) (by decide)
theorem tflows_B {t : api_Trade} {p : Int} (ht : tradeP t) (hp : priceOk p = true) : ∀ x ∈ tflows t p, Wid x.2 ∧ BigOk x.2 := by
  have h1 := priceOk_of hp
  unfold tradeP at ht
  have b1 := mul_le ht.2.2.2.2.2.1 ht.2.2.2.2.2.2.1 (show -1000000000000 ≤ p - t.P by omega) (by omega)
  have b2 := mul_le ht.2.2.2.2.2.1 ht.2.2.2.2.2.2.1 (show -1000000000000 ≤ t.P - p by omega) (by omega)
  have w : ∀ z : Int, z.natAbs ≤ 1000000000000000000000 → Wid z ∧ BigOk z := fun z hz => ⟨by unfold Wid; omega, bigOk_of (Nat.lt_of_le_of_lt hz (by decide))⟩
  intro x hx
  unfold tflows at hx
  split at hx
  · cases hx
  · rcases List.mem_cons.1 hx with rfl | hx
    · exact w _ b1
    · rw [List.mem_singleton.1 hx]; exact w _ b2
theorem tans_ok {t : api_Trade} {p : Int} (ht : tradeP t) (hp : priceOk p = true) : tans t p = (tflows t p, 0) := by unfold tans; rw [if_pos ⟨ht, hp⟩]
theorem tans_no {t : api_Trade} {p : Int} (h : ¬(tradeP t ∧ priceOk p = true)) : tans t p = ([], 1) := by unfold tans; rw [if_neg h]
theorem mark_Trade_eq (t : api_Trade) (p : Int) : mark_Trade.f t p = some ((tans t p).1.map fun x => mkE x.1 x.2, (tans t p).2) := by
  unfold mark_Trade.f
  rw [mark_Right_eq, mark_Price_eq]
  simp only [Option.bind_some, decide_eq_true_eq]
  by_cases ht : tradeP t
  · rw [if_neg (fun h => h ht)]
    by_cases hp : priceOk p = true
    · have h1 := priceOk_of hp
      have ht' := ht
      unfold tradeP at ht'
      rw [if_neg (fun h => h hp), tans_ok ht hp]
      unfold tflows
      by_cases e : p = t.P
      · rw [if_pos e, if_pos e]; rfl
      · rw [if_neg e, if_neg e, i64_wrap _ (by omega) (by omega), i64_wrap _ (by omega) (by omega)]
        unfold wide_Mul.f
        rw [if_pos ⟨by unfold I64; omega, by unfold I64; omega⟩, if_pos ⟨by unfold I64; omega, by unfold I64; omega⟩]
        simp only [Option.bind_some, mark_entry_eq]
        rfl
    · rw [if_pos hp, tans_no (fun h => hp h.2)]; rfl
  · rw [if_pos ht, tans_no (fun h => ht h.1)]; rfl
theorem rTrade_eq (t : api_Trade) (p : Int) : novationref15_TradeParts.f t p = some ((tans t p).1.map fun x => mkP x.1 x.2, (tans t p).2) := by
  unfold novationref15_TradeParts.f
  rw [rRight_eq, rprice_eq]
  simp only [Option.bind_some, decide_eq_true_eq]
  by_cases ht : tradeP t
  · rw [if_neg (fun h => h ht)]
    by_cases hp : priceOk p = true
    · have h1 := priceOk_of hp
      have ht' := ht
      unfold tradeP at ht'
      have b1 := mul_le ht'.2.2.2.2.2.1 ht'.2.2.2.2.2.2.1 (show -1000000000000 ≤ p - t.P by omega) (by omega)
      have ec : (p - t.P) * t.Q = t.Q * (p - t.P) := Int.mul_comm _ _
      have en : t.Q * (t.P - p) = -(t.Q * (p - t.P)) := by rw [← Int.mul_neg]; congr 1; omega
      rw [if_neg (fun h => h hp), tans_ok ht hp, i64_wrap _ (by omega) (by omega)]
      unfold novationref1_Whole.f novationref1_Times.f novationref1_Sign.f novationref1_Turned.f
      have B : ∀ z : Int, z.natAbs ≤ 1000000000000000000000 → BigOk z := fun z hz => bigOk_of (Nat.lt_of_le_of_lt hz (by decide))
      rw [if_pos (by unfold I64; omega), Option.bind_some, if_pos (by unfold I64; omega), Option.bind_some, if_pos ⟨B _ (by omega), B _ (by omega)⟩, Option.bind_some, ec, if_pos (B _ b1), Option.bind_some, if_pos (B _ b1)]
      simp only [Option.bind_some, rRow_eq]
      unfold tflows
      by_cases e : p = t.P
      · rw [if_pos e, if_pos (by rw [e, Int.sub_self, Int.mul_zero]; decide)]; rfl
      · have hz : t.Q * (p - t.P) ≠ 0 := Int.mul_ne_zero (by omega) (by omega)
        rw [if_neg e, if_neg (fun h => hz (by unfold cmpI at h; split at h <;> first | omega | (split at h <;> omega))), en]
        rfl
    · rw [if_pos hp, tans_no (fun h => hp h.2)]; rfl
  · rw [if_pos ht, tans_no (fun h => ht h.1)]; rfl
theorem tans_len (t : api_Trade) (p : Int) : (tans t p).1.length ≤ 2 := by
  unfold tans tflows
  repeat' split
  all_goals simp
theorem tans_B (t : api_Trade) (p : Int) : ∀ x ∈ (tans t p).1, Wid x.2 ∧ BigOk x.2 := by
  unfold tans
  split
  · next h => exact tflows_B h.1 h.2
  · intro x hx; cases hx
theorem markTrades_true (t : api_Trade) {p : Int} {l : List Int} (hl : ∀ y ∈ l, 0 ≤ y ∧ y < 18446744073709551616) : novationlaw15_MarkTrades.f t p l = some true := by
  have hE := hEntries_eq (tans t p).1 (by have := tans_len t p; omega) (tans_B t p)
  have fin : ∀ (u : api_Trade) (b : Bool), (b = decide (tradeP u)) → (if True then (novationhelp_Entries.f ((tans t p).1.map fun x => mkE x.1 x.2) ((tans t p).1.map fun x => mkP x.1 x.2)).bind fun y13_6 => (if y13_6 = true then ((mark_Right.f t).bind fun y13_10 => ((novationref15_RightTrade.f t).bind fun y13_12 => (if y13_10 = y13_12 then ((mark_Right.f u).bind fun y13_17 => ((novationref15_RightTrade.f u).bind fun y13_19 => (if y13_17 = y13_19 then ((mark_Right.f u).bind fun y13_26 => (some (b == y13_26))) else (some false)))) else (some false)))) else (some false)) else (some false)) = some true := by
    intro u b hb
    simp only [hE, mark_Right_eq, rRight_eq, Option.bind_some, if_true, hb, beq_self_eq_true]
  unfold novationlaw15_MarkTrades.f novationseat_Of.f
  rw [mark_known, Option.bind_some, if_neg (by simp), Option.bind_some, mark_Trade_eq, rTrade_eq]
  have h0 : DK 0 (⟨l, 0⟩ : novationseat_Deck) := ⟨hl, by simp, by simp⟩
  suffices h : Tot _ (fun r : Bool => r = true) by
    obtain ⟨r, e, rfl⟩ := h
    exact e
  refine (Config_T h0 (by omega)).bind fun c hc => ?_
  refine (Event_T hc.2.2 (by omega) hc.1).bind fun e he => ?_
  refine (N_T he.2 (by omega) (by omega) (by omega)).bind fun a ha => ?_
  refine (N_T ha.2 (by omega) (by omega) (by omega)).bind fun b hb => ?_
  refine (N_T hb.2 (by omega) (by omega) (by omega)).bind fun d hd => ?_
  simp only [Option.bind_some]
  refine (N_T hd.2 (by omega) (by omega) (by omega)).bind fun m hm => ?_
  obtain ⟨u, hu⟩ : ∃ u : api_Trade, u = ⟨a.1, b.1, d.1, (if 1 > e.1.Q then 1 else e.1.Q), (if 1 > e.1.P then 1 else e.1.P)⟩ := ⟨_, rfl⟩
  rw [← hu, i64_wrap _ (by omega) (by omega), mark_Trade_eq, Option.bind_some]
  simp only
  have hpr : priceOk (1 + m.1) = true := decide_eq_true (by omega)
  have hans : tans u (1 + m.1) = if tradeP u then (tflows u (1 + m.1), 0) else ([], 1) := by
    unfold tans
    by_cases h : tradeP u
    · rw [if_pos h, if_pos ⟨h, hpr⟩]
    · rw [if_neg h, if_neg (fun h2 => h h2.1)]
  by_cases h : tradeP u
  · rw [hans, if_pos h]
    have hB := tflows_B h hpr
    have hfin := fin u ((0 : Int) == 0) (by rw [decide_eq_true h]; rfl)
    refine Tot.ite (fun _ => ?_) (fun h => absurd rfl h)
    refine Tot.ite (fun hlen => ?_) (fun _ => ⟨true, hfin, rfl⟩)
    simp only [List.length_map] at hlen
    dsimp only
    have e2 : tflows u (1 + m.1) = [(u.Buy, u.Q * (1 + m.1 - u.P)), (u.Sell, u.Q * (u.P - (1 + m.1)))] := by
      unfold tflows at hlen ⊢
      split at hlen
      · simp at hlen
      · next hne => rw [if_neg hne]
    have r0 : (rd ((tflows u (1 + m.1)).map fun x => mkE x.1 x.2) 0).X = u.Q * (1 + m.1 - u.P) := by rw [e2]; rfl
    have r1 : (rd ((tflows u (1 + m.1)).map fun x => mkE x.1 x.2) 1).X = u.Q * (u.P - (1 + m.1)) := by rw [e2]; rfl
    have w0 := (hB (u.Buy, u.Q * (1 + m.1 - u.P)) (by rw [e2]; simp)).1
    have w1 := (hB (u.Sell, u.Q * (u.P - (1 + m.1))) (by rw [e2]; simp)).1
    have hs : u.Q * (1 + m.1 - u.P) + u.Q * (u.P - (1 + m.1)) = 0 := by rw [← Int.mul_add]; rw [show 1 + m.1 - u.P + (u.P - (1 + m.1)) = 0 by omega, Int.mul_zero]
    have hlen2 : (tflows u (1 + m.1)).length = 2 := by rw [e2]; rfl
    rw [List.length_map, hlen2, if_pos (by decide), if_pos (by decide), r0, r1]
    unfold wide_Add.f
    rw [if_pos ⟨w0, w1⟩, hs, Option.bind_some, if_neg (by decide), if_neg (by decide)]
    exact ⟨true, hfin, rfl⟩
  · rw [hans, if_neg h]
    refine Tot.ite (fun h => absurd h (by decide)) (fun _ => ?_)
    exact ⟨true, fin u ((1 : Int) == 0) (by rw [decide_eq_false h]; rfl), rfl⟩
end Go.Ax
