/- Loops of printed functions, in plain terms. -/
import Derived.Test.YtmpbhgofllbejaaGa
set_option linter.unusedVariables false
set_option linter.unusedSimpArgs false
set_option linter.unusedVariables false
set_option linter.unusedSimpArgs false
namespace Go.Ax
open Go
theorem wsucc {i : Nat} (h : i < 2 ^ 60) : IntKind.i64.wrap ((i : Int) + 1) = ((i + 1 : Nat) : Int) := by rw [i64_wrap _ (by omega) (by omega)]; omega
theorem wpred {i : Nat} (h : i < 2 ^ 60) : IntKind.i64.wrap ((i : Int) - 1) = (i : Int) - 1 := i64_wrap _ (by omega) (by omega)
theorem FUEL_big {n : Nat} (h : n < 2 ^ 59) : n < FUEL := by unfold FUEL; omega
theorem rd_nat {α : Type} [Inhabited α] (l : List α) (i : Nat) : rd l (i : Int) = l[i]?.getD default := by simp [rd]
theorem rd_get {α : Type} [Inhabited α] (l : List α) {i : Nat} (h : i < l.length) : rd l (i : Int) = l[i] := by simp [rd, h]
/-- A loop that tells r at the first bad place. -/
theorem loop_all {σ ρ : Type} (L : Nat → Int → Option (Flow σ ρ)) (n : Nat) (P : Nat → Bool) (r : ρ) (e : σ) (h0 : ∀ k (i : Nat), i < n → P i = true → L (k + 1) i = L k ((i + 1 : Nat) : Int))
    (h1 : ∀ k (i : Nat), i < n → P i = false → L (k + 1) i = some (.ret r)) (h2 : ∀ k, L (k + 1) (n : Int) = some (.out e)) (hn : n < 2 ^ 59) :
    L FUEL 0 = some (if (List.range n).all P = true then .out e else .ret r) := by
  have key : ∀ (d i k : Nat), i + d = n → d < k → L k (i : Int) = some (if (List.range' i d).all P = true then .out e else .ret r) := by
    intro d
    induction d with
    | zero =>
      intro i k hi hk
      obtain ⟨k, rfl⟩ : ∃ m, k = m + 1 := ⟨k - 1, by omega⟩
      have : i = n := by omega
      subst this
      rw [h2]; simp
    | succ d ih =>
      intro i k hi hk
      obtain ⟨k, rfl⟩ : ∃ m, k = m + 1 := ⟨k - 1, by omega⟩
      cases hp : P i with
      | true => rw [h0 k i (by omega) hp, ih (i + 1) k (by omega) (by omega), List.range'_succ, List.all_cons, hp, Bool.true_and]
      | false => rw [h1 k i (by omega) hp, List.range'_succ, List.all_cons, hp, Bool.false_and]; rfl
  have := key n 0 FUEL (by omega) (FUEL_big hn)
  rw [← List.range_eq_range'] at this
  exact this
/-- n steps. -/
def itr {σ : Type} (g : Nat → σ → σ) : Nat → σ → σ
  | 0, s => s
  | n + 1, s => g n (itr g n s)
/-- A loop that goes through to its end. -/
theorem loop_fold {σ R : Type} (L : Nat → Int → σ → Option R) (n : Nat) (g : Nat → σ → σ) (I : Nat → σ → Prop) (E : σ → R) (s0 : σ)
    (hs : ∀ k (i : Nat) s, i < n → I i s → L (k + 1) i s = L k ((i + 1 : Nat) : Int) (g i s) ∧ I (i + 1) (g i s)) (he : ∀ k s, I n s → L (k + 1) (n : Int) s = some (E s)) (h0 : I 0 s0) (hn : n < 2 ^ 59) :
    L FUEL 0 s0 = some (E (itr g n s0)) ∧ I n (itr g n s0) := by
  have inv : ∀ i, i ≤ n → I i (itr g i s0) := by
    intro i
    induction i with
    | zero => intro _; exact h0
    | succ i ih => intro hi; exact (hs 0 i _ (by omega) (ih (by omega))).2
  have key : ∀ (d i k : Nat), i + d = n → d < k → L k (i : Int) (itr g i s0) = some (E (itr g n s0)) := by
    intro d
    induction d with
    | zero =>
      intro i k hi hk
      obtain ⟨k, rfl⟩ : ∃ m, k = m + 1 := ⟨k - 1, by omega⟩
      have : i = n := by omega
      subst this
      exact he k _ (inv i (by omega))
    | succ d ih =>
      intro i k hi hk
      obtain ⟨k, rfl⟩ : ∃ m, k = m + 1 := ⟨k - 1, by omega⟩
      rw [(hs k i _ (by omega) (inv i (by omega))).1]
      exact ih (i + 1) k (by omega) (by omega)
  exact ⟨key n 0 FUEL (by omega) (FUEL_big hn), inv n (Nat.le_refl n)⟩
/-- A loop that goes through, or stops at some place with an answer. -/
theorem loop_find {σ ρ : Type} (L : Nat → Int → Option (Flow σ ρ)) (n : Nat) (P : Nat → Bool) (r : Nat → ρ) (e : σ) (h0 : ∀ k (i : Nat), i < n → P i = false → L (k + 1) i = L k ((i + 1 : Nat) : Int))
    (h1 : ∀ k (i : Nat), i < n → P i = true → L (k + 1) i = some (.ret (r i))) (h2 : ∀ k, L (k + 1) (n : Int) = some (.out e)) (hn : n < 2 ^ 59) :
    L FUEL 0 = some (match (List.range n).find? P with | some i => .ret (r i) | none => .out e) := by
  have key : ∀ (d i k : Nat), i + d = n → d < k → L k (i : Int) = some (match (List.range' i d).find? P with | some i => .ret (r i) | none => .out e) := by
    intro d
    induction d with
    | zero =>
      intro i k hi hk
      obtain ⟨k, rfl⟩ : ∃ m, k = m + 1 := ⟨k - 1, by omega⟩
      have : i = n := by omega
      subst this
      rw [h2]; simp
    | succ d ih =>
      intro i k hi hk
      obtain ⟨k, rfl⟩ : ∃ m, k = m + 1 := ⟨k - 1, by omega⟩
      cases hp : P i with
      | false => rw [h0 k i (by omega) hp, ih (i + 1) k (by omega) (by omega), List.range'_succ, List.find?_cons, hp]
      | true => rw [h1 k i (by omega) hp, List.range'_succ, List.find?_cons, hp]
  have := key n 0 FUEL (by omega) (FUEL_big hn)
  rw [← List.range_eq_range'] at this
  exact this
theorem flow_if {σ ρ : Type} (c : Prop) [Decidable c] (e : σ) (r : ρ) (k : σ → Option ρ) : ((if c then Flow.out e else Flow.ret r : Flow σ ρ).go k) = if c then k e else some r := by split <;> rfl
theorem ifr {α : Type} {c : Prop} [Decidable c] {A B r : α} (h1 : c → A = r) (h2 : ¬c → B = r) : (if c then A else B) = r := by
  by_cases h : c
  · rw [if_pos h]; exact h1 h
  · rw [if_neg h]; exact h2 h
theorem all_range_iff {n : Nat} {P : Nat → Bool} : (List.range n).all P = true ↔ ∀ i, i < n → P i = true := by simp [List.all_eq_true]
theorem bigOk_of {z : Int} (h : z.natAbs < 2 ^ 250) : BigOk z := by
  have : (2 : Nat) ^ 250 ≤ BB ^ 12 := by decide
  unfold BigOk; omega
end Go.Ax

/- What positions and open orders want: the program's answers and the reference's are the same ones. -/
set_option linter.unusedVariables false
set_option linter.unusedSimpArgs false
set_option maxRecDepth 100000
namespace Go.Ax
open Go
def inB (n lo hi : Int) : Bool := decide (n ≥ lo) && decide (n ≤ hi)
theorem plan_in_eq (n lo hi : Int) : plan_in.f n lo hi = some (inB n lo hi) := by
  unfold plan_in.f inB
  by_cases h : n ≥ lo <;> simp [h]
theorem within_eq (n lo hi : Int) : novationref4_within.f n lo hi = some (inB n lo hi) := by
  unfold novationref4_within.f inB
  by_cases h : n ≥ lo <;> simp [h]
def instOk (x : api_Inst) : Bool := inB x.Bucket 0 3 && (inB x.Price 1 1000000000000 && (inB x.Rate 0 1000000000 && inB x.Slip 0 1000000000))
def planRest (c : api_Config) : Bool := decide (c.Skin ≥ 0) && (inB c.Times 0 4 && (inB c.Port 0 1000000 && (inB c.Bid 0 1000000 && (inB c.LotSize 1 4611686018427387904 && decide (c.HedgeMin ≥ 0)))))
def planOk (c : api_Config) : Bool := inB c.Insts.length 1 6 && ((List.range c.Insts.length).all (fun i => instOk (rd c.Insts (i : Int))) && planRest c)
theorem plan_loop (c : api_Config) (hn : c.Insts.length < 2 ^ 59) : plan_Right.l0 c FUEL 0 = some (if (List.range c.Insts.length).all (fun i => instOk (rd c.Insts (i : Int))) = true then .out (c.Insts.length : Int) else .ret false) := by
  refine loop_all (fun k i => plan_Right.l0 c k i) _ _ false _ (fun k i hi hp => ?_) (fun k i hi hp => ?_) (fun k => ?_) hn
  · have e1 := wsucc (i := i) (by omega)
    simp only [plan_Right.l0, plan_in_eq, Option.bind_some, e1]
    simp only [instOk, Bool.and_eq_true] at hp
    rw [if_pos (by omega), if_pos (by omega), if_neg (by simp [hp]), if_neg (by simp [hp]), if_neg (by simp [hp]), if_neg (by simp [hp])]
  · simp only [plan_Right.l0, plan_in_eq, Option.bind_some]
    rw [if_pos (by omega), if_pos (by omega)]
    unfold instOk at hp
    repeat' split
    all_goals first | rfl | simp_all
  · simp only [plan_Right.l0]; rw [if_neg (by omega)]
theorem plan_Right_eq (c : api_Config) (hn : c.Insts.length < 2 ^ 59) : plan_Right.f c = some (planOk c) := by
  unfold plan_Right.f
  simp only [plan_in_eq, Option.bind_some, plan_loop c hn, flow_if]
  unfold planOk planRest
  generalize (List.range c.Insts.length).all (fun i => instOk (rd c.Insts (i : Int))) = A
  cases A <;> cases inB c.Insts.length 1 6 <;> cases inB c.Times 0 4 <;> cases inB c.Port 0 1000000 <;> cases inB c.Bid 0 1000000 <;> cases inB c.LotSize 1 4611686018427387904 <;> by_cases h2 : 0 ≤ c.Skin <;> simp [h2]
theorem RightPlan_eq (c : api_Config) (hn : c.Insts.length < 2 ^ 59) : novationref4_RightPlan.f c = some (planOk c) := by
  have hl : novationref4_RightPlan.l0 c FUEL 0 = some (if (List.range c.Insts.length).all (fun i => instOk (rd c.Insts (i : Int))) = true then .out (c.Insts.length : Int) else .ret false) := by
    refine loop_all (fun k i => novationref4_RightPlan.l0 c k i) _ _ false _ (fun k i hi hp => ?_) (fun k i hi hp => ?_) (fun k => ?_) hn
    · have e1 := wsucc (i := i) (by omega)
      simp only [novationref4_RightPlan.l0, within_eq, Option.bind_some, e1]
      simp only [instOk, Bool.and_eq_true] at hp
      rw [if_pos (by omega), if_pos (by omega), if_neg (by simp [hp]), if_neg (by simp [hp]), if_neg (by simp [hp]), if_neg (by simp [hp])]
    · simp only [novationref4_RightPlan.l0, within_eq, Option.bind_some]
      rw [if_pos (by omega), if_pos (by omega)]
      unfold instOk at hp
      repeat' split
      all_goals first | rfl | simp_all
    · simp only [novationref4_RightPlan.l0]; rw [if_neg (by omega)]
  unfold novationref4_RightPlan.f
  simp only [within_eq, Option.bind_some, hl, flow_if]
  unfold planOk planRest
  by_cases a : (c.Insts.length : Int) < 1
  · rw [if_pos a]; simp [inB]; omega
  rw [if_neg a]
  by_cases b : (c.Insts.length : Int) > 6
  · rw [if_pos b]; simp [inB]; omega
  rw [if_neg b]
  have : inB c.Insts.length 1 6 = true := by simp [inB]; omega
  rw [this]
  simp only [Bool.true_and]
  generalize (List.range c.Insts.length).all (fun i => instOk (rd c.Insts (i : Int))) = A
  cases A <;> cases inB c.Times 0 4 <;> cases inB c.Port 0 1000000 <;> cases inB c.Bid 0 1000000 <;> cases inB c.LotSize 1 4611686018427387904 <;> by_cases h2 : 0 ≤ c.Skin <;> simp [h2]
/-- May the i-th leg be? -/
def legOk (c : api_Config) (l : List api_Leg) (i : Nat) : Prop := 0 ≤ (rd l (i : Int)).Inst ∧ (rd l (i : Int)).Inst < c.Insts.length ∧ (rd l (i : Int)).Q ≠ 0 ∧ (rd l (i : Int)).Q ≠ -9223372036854775808 ∧ (0 < i → (rd l ((i : Int) - 1)).Inst < (rd l (i : Int)).Inst)
instance (c : api_Config) (l : List api_Leg) (i : Nat) : Decidable (legOk c l i) := by unfold legOk; infer_instance
def legsOk (c : api_Config) (l : List api_Leg) : Bool := (List.range l.length).all (fun i => decide (legOk c l i)) && planOk c
theorem need_Legs_eq (c : api_Config) (l : List api_Leg) (hn : c.Insts.length < 2 ^ 59) (hl : l.length < 2 ^ 59) : need_Legs.f c l = some (legsOk c l) := by
  have h : need_Legs.l0 c l FUEL 0 = some (if (List.range l.length).all (fun i => decide (legOk c l i)) = true then .out (l.length : Int) else .ret false) := by
    refine loop_all (fun k i => need_Legs.l0 c l k i) _ _ false _ (fun k i hi hp => ?_) (fun k i hi hp => ?_) (fun k => ?_) hl
    · have e1 := wsucc (i := i) (by omega)
      have e2 := wpred (i := i) (by omega)
      simp only [need_Legs.l0, e1, e2, stock_Quantity.f, Option.bind_some]
      have hp := of_decide_eq_true hp
      obtain ⟨p1, p2, p3, p4, p5⟩ := hp
      rw [if_pos (by omega), if_pos (by omega), if_neg (by omega), if_neg (by omega), if_neg (by omega), if_neg (by simp; omega)]
      split
      · rw [if_pos (by omega), if_neg (by omega)]
      · rfl
    · have e2 := wpred (i := i) (by omega)
      simp only [need_Legs.l0, e2, stock_Quantity.f, Option.bind_some, bne_iff_ne]
      have hp : ¬ legOk c l i := of_decide_eq_false hp
      unfold legOk at hp
      rw [if_pos (by omega), if_pos (by omega)]
      repeat' first | rfl | (refine ifr (fun _ => ?_) (fun _ => ?_))
      all_goals first | rfl | (exfalso; omega)
    · simp only [need_Legs.l0]; rw [if_neg (by omega)]
  unfold need_Legs.f
  simp only [h, Option.bind_some, flow_if, plan_Right_eq c hn]
  unfold legsOk
  generalize (List.range l.length).all (fun i => decide (legOk c l i)) = A
  cases A <;> cases planOk c <;> rfl
theorem rLegs_eq (c : api_Config) (l : List api_Leg) (hn : c.Insts.length < 2 ^ 59) (hl : l.length < 2 ^ 59) : novationref10_Legs.f c l = some (legsOk c l) := by
  have h : novationref10_Legs.l0 c l FUEL 0 = some (if (List.range l.length).all (fun i => decide (legOk c l i)) = true then .out (l.length : Int) else .ret false) := by
    refine loop_all (fun k i => novationref10_Legs.l0 c l k i) _ _ false _ (fun k i hi hp => ?_) (fun k i hi hp => ?_) (fun k => ?_) hl
    · have e1 := wsucc (i := i) (by omega)
      have e2 := wpred (i := i) (by omega)
      simp only [novationref10_Legs.l0, e1, e2]
      have hp := of_decide_eq_true hp
      obtain ⟨p1, p2, p3, p4, p5⟩ := hp
      rw [if_pos (by omega), if_pos (by omega), if_neg (by omega), if_neg (by omega), if_neg (by omega), if_neg (by omega)]
      split
      · rw [if_pos (by omega), if_neg (by omega)]
      · rfl
    · have e2 := wpred (i := i) (by omega)
      simp only [novationref10_Legs.l0, e2]
      have hp : ¬ legOk c l i := of_decide_eq_false hp
      unfold legOk at hp
      rw [if_pos (by omega), if_pos (by omega)]
      repeat' first | rfl | (refine ifr (fun _ => ?_) (fun _ => ?_))
      all_goals first | rfl | (exfalso; omega)
    · simp only [novationref10_Legs.l0]; rw [if_neg (by omega)]
  unfold novationref10_Legs.f
  simp only [h, Option.bind_some, flow_if, RightPlan_eq c hn]
  unfold legsOk
  generalize (List.range l.length).all (fun i => decide (legOk c l i)) = A
  cases A <;> cases planOk c <;> simp
def openOk (c : api_Config) (l : List api_Open) (i : Nat) : Prop := 0 ≤ (rd l (i : Int)).Inst ∧ (rd l (i : Int)).Inst < c.Insts.length ∧ 0 ≤ (rd l (i : Int)).Buy ∧ (rd l (i : Int)).Buy ≤ 33000000000 ∧ 0 ≤ (rd l (i : Int)).Sell ∧ (rd l (i : Int)).Sell ≤ 33000000000 ∧ ¬ ((rd l (i : Int)).Buy = 0 ∧ (rd l (i : Int)).Sell = 0) ∧ (0 < i → (rd l ((i : Int) - 1)).Inst < (rd l (i : Int)).Inst)
instance (c : api_Config) (l : List api_Open) (i : Nat) : Decidable (openOk c l i) := by unfold openOk; infer_instance
def opensOk (c : api_Config) (l : List api_Open) : Bool := (List.range l.length).all (fun i => decide (openOk c l i)) && planOk c
theorem need_Opens_eq (c : api_Config) (l : List api_Open) (hn : c.Insts.length < 2 ^ 59) (hl : l.length < 2 ^ 59) : need_Opens.f c l = some (opensOk c l) := by
  have h : need_Opens.l0 c l FUEL 0 = some (if (List.range l.length).all (fun i => decide (openOk c l i)) = true then .out (l.length : Int) else .ret false) := by
    refine loop_all (fun k i => need_Opens.l0 c l k i) _ _ false _ (fun k i hi hp => ?_) (fun k i hi hp => ?_) (fun k => ?_) hl
    · have e1 := wsucc (i := i) (by omega)
      have e2 := wpred (i := i) (by omega)
      simp only [need_Opens.l0, e1, e2]
      have hp := of_decide_eq_true hp
      obtain ⟨p1, p2, p3, p4, p5, p6, p7, p8⟩ := hp
      rw [if_pos (by omega), if_pos (by omega)]
      repeat' first | rfl | (refine ifr (fun _ => ?_) (fun _ => ?_))
      all_goals first | rfl | (exfalso; omega)
    · have e2 := wpred (i := i) (by omega)
      simp only [need_Opens.l0, e2]
      have hp : ¬ openOk c l i := of_decide_eq_false hp
      unfold openOk at hp
      rw [if_pos (by omega), if_pos (by omega)]
      repeat' first | rfl | (refine ifr (fun _ => ?_) (fun _ => ?_))
      all_goals first | rfl | (exfalso; omega)
    · simp only [need_Opens.l0]; rw [if_neg (by omega)]
  unfold need_Opens.f
  simp only [h, Option.bind_some, flow_if, plan_Right_eq c hn]
  unfold opensOk
  generalize (List.range l.length).all (fun i => decide (openOk c l i)) = A
  cases A <;> cases planOk c <;> rfl
theorem rOpens_eq (c : api_Config) (l : List api_Open) (hn : c.Insts.length < 2 ^ 59) (hl : l.length < 2 ^ 59) : novationref10_OpensRight.f c l = some (opensOk c l) := by
  have h : novationref10_OpensRight.l0 c l FUEL 0 = some (if (List.range l.length).all (fun i => decide (openOk c l i)) = true then .out (l.length : Int) else .ret false) := by
    refine loop_all (fun k i => novationref10_OpensRight.l0 c l k i) _ _ false _ (fun k i hi hp => ?_) (fun k i hi hp => ?_) (fun k => ?_) hl
    · have e1 := wsucc (i := i) (by omega)
      have e2 := wpred (i := i) (by omega)
      simp only [novationref10_OpensRight.l0, e1, e2]
      have hp := of_decide_eq_true hp
      obtain ⟨p1, p2, p3, p4, p5, p6, p7, p8⟩ := hp
      rw [if_pos (by omega), if_pos (by omega)]
      repeat' first | rfl | (refine ifr (fun _ => ?_) (fun _ => ?_))
      all_goals first | rfl | (exfalso; omega)
    · have e2 := wpred (i := i) (by omega)
      simp only [novationref10_OpensRight.l0, e2]
      have hp : ¬ openOk c l i := of_decide_eq_false hp
      unfold openOk at hp
      rw [if_pos (by omega), if_pos (by omega)]
      repeat' first | rfl | (refine ifr (fun _ => ?_) (fun _ => ?_))
      all_goals first | rfl | (exfalso; omega)
    · simp only [novationref10_OpensRight.l0]; rw [if_neg (by omega)]
  unfold novationref10_OpensRight.f
  simp only [h, Option.bind_some, flow_if, RightPlan_eq c hn]
  unfold opensOk
  generalize (List.range l.length).all (fun i => decide (openOk c l i)) = A
  cases A <;> cases planOk c <;> simp
end Go.Ax

/- The sums of what is wanted: the program's and the reference's are the same ones. -/
set_option linter.unusedVariables false
set_option linter.unusedSimpArgs false
set_option maxRecDepth 100000
namespace Go.Ax
open Go
theorem legsOk_leg {c : api_Config} {l : List api_Leg} (h : legsOk c l = true) : (∀ i, i < l.length → legOk c l i) ∧ planOk c = true := by
  rw [legsOk, Bool.and_eq_true] at h
  refine ⟨fun i hi => ?_, h.2⟩
  have := all_range_iff.1 h.1 i hi
  exact of_decide_eq_true this
theorem opensOk_open {c : api_Config} {l : List api_Open} (h : opensOk c l = true) : (∀ i, i < l.length → openOk c l i) ∧ planOk c = true := by
  rw [opensOk, Bool.and_eq_true] at h
  refine ⟨fun i hi => ?_, h.2⟩
  have := all_range_iff.1 h.1 i hi
  exact of_decide_eq_true this
theorem planOk_inst {c : api_Config} (h : planOk c = true) : (∀ i, i < c.Insts.length → instOk (rd c.Insts (i : Int)) = true) ∧ 1 ≤ c.Insts.length ∧ c.Insts.length ≤ 6 := by
  rw [planOk, Bool.and_eq_true, Bool.and_eq_true] at h
  refine ⟨fun i hi => all_range_iff.1 h.2.1 i hi, ?_⟩
  have := h.1
  simp [inB] at this
  omega
theorem instOk_rate {x : api_Inst} (h : instOk x = true) : (0 ≤ x.Rate ∧ x.Rate ≤ 1000000000) ∧ (0 ≤ x.Slip ∧ x.Slip ≤ 1000000000) := by
  simp [instOk, inB] at h
  omega
theorem legs_few {c : api_Config} {l : List api_Leg} (h : legsOk c l = true) : l.length ≤ 6 := by
  obtain ⟨leg, hp⟩ := legsOk_leg h
  obtain ⟨_, _, h6⟩ := planOk_inst hp
  have mono : ∀ i : Nat, i < l.length → (i : Int) ≤ (rd l (i : Int)).Inst := fun i => by
    induction i with
    | zero => intro hi; exact (leg 0 hi).1
    | succ i ih =>
      intro hi
      have h1 := ih (by omega)
      have h2 := (leg (i + 1) hi).2.2.2.2 (by omega)
      rw [show ((i + 1 : Nat) : Int) - 1 = (i : Int) by omega] at h2
      omega
  rcases Nat.eq_zero_or_pos l.length with h0 | h0
  · omega
  · have h1 := mono (l.length - 1) (by omega)
    have h2 := (leg (l.length - 1) (by omega)).2.1
    omega
/-- What a leg wants, by a rate. -/
def legBy (c : api_Config) (rt : api_Inst → Int) (x : api_Leg) : Int := (x.Q.natAbs : Int) * rt (rd c.Insts x.Inst)
/-- What the first n legs want. -/
def sumBy (c : api_Config) (rt : api_Inst → Int) (l : List api_Leg) (n : Nat) : Int := ((List.range n).map fun j : Nat => legBy c rt (rd l (j : Int))).sum
theorem sumBy_succ (c : api_Config) (rt : api_Inst → Int) (l : List api_Leg) (n : Nat) : sumBy c rt l (n + 1) = sumBy c rt l n + legBy c rt (rd l (n : Int)) := by
  simp [sumBy, List.range_succ]
def LegI (l : List api_Leg) : Prop := ∀ i, i < l.length → I64 (rd l (i : Int)).Q
section
variable {c : api_Config} {l : List api_Leg} (h : legsOk c l = true) (hI : LegI l) (rt : api_Inst → Int) (hr : ∀ x, instOk x = true → 0 ≤ rt x ∧ rt x ≤ 1000000000)
include h hI hr
theorem leg_bound (i : Nat) (hi : i < l.length) : 0 ≤ rt (rd c.Insts (rd l (i : Int)).Inst) ∧ rt (rd c.Insts (rd l (i : Int)).Inst) ≤ 1000000000 ∧ 0 ≤ legBy c rt (rd l (i : Int)) ∧ legBy c rt (rd l (i : Int)) ≤ 9223372036854775808 * 1000000000 := by
  obtain ⟨leg, hp⟩ := legsOk_leg h
  obtain ⟨ins, _, _⟩ := planOk_inst hp
  have lk := leg i hi
  have hx := ins (rd l (i : Int)).Inst.toNat (by have := lk.1; have := lk.2.1; omega)
  rw [show (((rd l (i : Int)).Inst.toNat : Nat) : Int) = (rd l (i : Int)).Inst by have := lk.1; omega] at hx
  have hq := hI i hi
  simp only [I64] at hq
  have hx := hr _ hx
  refine ⟨hx.1, hx.2, Int.mul_nonneg (by omega) hx.1, Int.mul_le_mul (by omega) hx.2 hx.1 (by omega)⟩
theorem sumBy_bound (n : Nat) (hn : n ≤ l.length) : 0 ≤ sumBy c rt l n ∧ sumBy c rt l n ≤ n * (9223372036854775808 * 1000000000) := by
  induction n with
  | zero => simp [sumBy]
  | succ n ih =>
    have h1 := ih (by omega)
    have h2 := leg_bound h hI rt hr n (by omega)
    rw [sumBy_succ]
    omega
end
theorem wfitV_of {z : Int} (h : Wid z) : wfitV z = z := by unfold wfitV; rw [if_pos h]
theorem wfit_of {z : Int} (h : Wid z) : wfit z = true := by unfold wfit; exact decide_eq_true h
theorem ret_rate (x : api_Inst) : need_Of_1.f x = some x.Rate := rfl
theorem ret_slip (x : api_Inst) : need_Slip_1.f x = some x.Slip := rfl
def termsBy (c : api_Config) (rt : api_Inst → Int) (l : List api_Leg) (n : Nat) : List Int := (List.range n).map fun j : Nat => legBy c rt (rd l (j : Int))
theorem wide_sum_terms {c : api_Config} {l : List api_Leg} (h : legsOk c l = true) (hI : LegI l) (rt : api_Inst → Int) (hr : ∀ x, instOk x = true → 0 ≤ rt x ∧ rt x ≤ 1000000000) :
    wide_Sum.f (termsBy c rt l l.length) = some (sumBy c rt l l.length, true) := by
  have hb := sumBy_bound h hI rt hr l.length (Nat.le_refl _)
  have h6 := legs_few h
  have hw : Wid (sumBy c rt l l.length) := by simp only [Wid]; omega
  unfold wide_Sum.f
  rw [if_pos]
  · show some (wfitV (sumBy c rt l l.length), wfit (sumBy c rt l l.length)) = _
    rw [wfitV_of hw, wfit_of hw]
  · refine ⟨?_, by simp [termsBy]; omega⟩
    rw [List.all_eq_true]
    intro x hx
    obtain ⟨j, hj, rfl⟩ := List.mem_map.1 hx
    have := leg_bound h hI rt hr j (by simpa using hj)
    exact wfit_of (by simp only [Wid]; omega)
theorem need_by_Of_eq {c : api_Config} {l : List api_Leg} (hn : c.Insts.length < 2 ^ 59) (hl : l.length < 2 ^ 59) (hI : LegI l) : need_Of.f c l = some (if legsOk c l = true then (sumBy c (·.Rate) l l.length, 0) else (0, 1)) := by
  unfold need_Of.f need_by_need_Of_1.f
  simp only [need_Legs_eq c l hn hl, Option.bind_some]
  by_cases h : legsOk c l = true
  · have hr : ∀ x, instOk x = true → 0 ≤ x.Rate ∧ x.Rate ≤ 1000000000 := fun x hx => (instOk_rate hx).1
    obtain ⟨leg, hp⟩ := legsOk_leg h
    have h6 := legs_few h
    have hl : need_by_need_Of_1.l0 c l FUEL [] 0 = some (termsBy c (·.Rate) l l.length, (l.length : Int)) := by
      have := (loop_fold (fun k i s => need_by_need_Of_1.l0 c l k s i) l.length (fun i s => s ++ [legBy c (·.Rate) (rd l (i : Int))]) (fun i s => s = termsBy c (·.Rate) l i) (fun s => (s, (l.length : Int))) []
        (fun k i s hi hs => ?_) (fun k s hs => ?_) rfl (by omega))
      · obtain ⟨e1, e2⟩ := this
        rw [e2] at e1
        exact e1
      · have e1 := wsucc (i := i) (by omega)
        have lk := leg i hi
        have hq := hI i hi
        have hb := leg_bound h hI _ hr i hi
        have hq2 := lk.2.2.2.1
        have hqi : I64 (rd l (i : Int)).Q := hq
        simp only [I64] at hq
        refine ⟨?_, by rw [hs]; simp [termsBy, List.range_succ]⟩
        simp only [need_by_need_Of_1.l0, e1, amount_Size.f, ret_rate, wide_Mul.f]
        rw [if_pos (by omega), if_pos (by omega), if_pos hqi, Option.bind_some, if_pos ⟨lk.1, lk.2.1⟩, Option.bind_some, i64_wrap _ (by omega) (by omega), if_pos (by simp only [I64]; omega), Option.bind_some, if_pos (by rw [hs]; simp [termsBy]; omega)]
        rfl
      · simp only [need_by_need_Of_1.l0]; rw [if_neg (by omega)]
    rw [h]
    simp [hl, wide_sum_terms h hI _ hr]
  · simp [h]
theorem need_by_Slip_eq {c : api_Config} {l : List api_Leg} (hn : c.Insts.length < 2 ^ 59) (hl : l.length < 2 ^ 59) (hI : LegI l) : need_Slip.f c l = some (if legsOk c l = true then (sumBy c (·.Slip) l l.length, 0) else (0, 1)) := by
  unfold need_Slip.f need_by_need_Slip_1.f
  simp only [need_Legs_eq c l hn hl, Option.bind_some]
  by_cases h : legsOk c l = true
  · have hr : ∀ x, instOk x = true → 0 ≤ x.Slip ∧ x.Slip ≤ 1000000000 := fun x hx => (instOk_rate hx).2
    obtain ⟨leg, hp⟩ := legsOk_leg h
    have h6 := legs_few h
    have hl : need_by_need_Slip_1.l0 c l FUEL [] 0 = some (termsBy c (·.Slip) l l.length, (l.length : Int)) := by
      have := (loop_fold (fun k i s => need_by_need_Slip_1.l0 c l k s i) l.length (fun i s => s ++ [legBy c (·.Slip) (rd l (i : Int))]) (fun i s => s = termsBy c (·.Slip) l i) (fun s => (s, (l.length : Int))) []
        (fun k i s hi hs => ?_) (fun k s hs => ?_) rfl (by omega))
      · obtain ⟨e1, e2⟩ := this
        rw [e2] at e1
        exact e1
      · have e1 := wsucc (i := i) (by omega)
        have lk := leg i hi
        have hq := hI i hi
        have hb := leg_bound h hI _ hr i hi
        have hq2 := lk.2.2.2.1
        have hqi : I64 (rd l (i : Int)).Q := hq
        simp only [I64] at hq
        refine ⟨?_, by rw [hs]; simp [termsBy, List.range_succ]⟩
        simp only [need_by_need_Slip_1.l0, e1, amount_Size.f, ret_slip, wide_Mul.f]
        rw [if_pos (by omega), if_pos (by omega), if_pos hqi, Option.bind_some, if_pos ⟨lk.1, lk.2.1⟩, Option.bind_some, i64_wrap _ (by omega) (by omega), if_pos (by simp only [I64]; omega), Option.bind_some, if_pos (by rw [hs]; simp [termsBy]; omega)]
        rfl
      · simp only [need_by_need_Slip_1.l0]; rw [if_neg (by omega)]
    rw [h]
    simp [hl, wide_sum_terms h hI _ hr]
  · simp [h]
theorem two300 : (6 : Nat) * (9223372036854775808 * 1000000000) < 2 ^ 250 := by decide
theorem byRate_eq {c : api_Config} {l : List api_Leg} (b : Bool) (hn : c.Insts.length < 2 ^ 59) (hl : l.length < 2 ^ 59) (hI : LegI l) : novationref10_byRate.f c l b = some (if legsOk c l = true then (sumBy c (if b then (·.Slip) else (·.Rate)) l l.length, 0) else (0, 1)) := by
  unfold novationref10_byRate.f
  simp only [rLegs_eq c l hn hl, Option.bind_some]
  by_cases h : legsOk c l = true
  · have hr : ∀ x, instOk x = true → 0 ≤ (if b then (·.Slip) else (·.Rate) : api_Inst → Int) x ∧ (if b then (·.Slip) else (·.Rate) : api_Inst → Int) x ≤ 1000000000 := fun x hx => by have := instOk_rate hx; cases b <;> simp <;> omega
    generalize hrt : (if b then (·.Slip) else (·.Rate) : api_Inst → Int) = rt at hr ⊢
    obtain ⟨leg, hp⟩ := legsOk_leg h
    have h6 := legs_few h
    have hl : novationref10_byRate.l0 c l b FUEL 0 0 = some (sumBy c rt l l.length, (l.length : Int)) := by
      have := (loop_fold (fun k i s => novationref10_byRate.l0 c l b k s i) l.length (fun i s => s + legBy c rt (rd l (i : Int))) (fun i s => s = sumBy c rt l i) (fun s => (s, (l.length : Int))) 0
        (fun k i s hi hs => ?_) (fun k s hs => ?_) rfl (by omega))
      · obtain ⟨e1, e2⟩ := this
        rw [e2] at e1
        exact e1
      · have e1 := wsucc (i := i) (by omega)
        have lk := leg i hi
        have hq := hI i hi
        have hb := leg_bound h hI _ hr i hi
        have hs2 := sumBy_bound h hI _ hr i (by omega)
        refine ⟨?_, by rw [hs, sumBy_succ]⟩
        have t := two300
        have b1 : BigOk (rd l (i : Int)).Q := bigOk_of (by simp only [I64] at hq; omega)
        have b2 : BigOk (((rd l (i : Int)).Q.natAbs : Nat) : Int) := bigOk_of (by simp only [I64] at hq; omega)
        have b3 : BigOk (rt (rd c.Insts (rd l (i : Int)).Inst)) := bigOk_of (by omega)
        have b4 : BigOk (legBy c rt (rd l (i : Int))) := bigOk_of (by omega)
        have b5 : BigOk s := bigOk_of (by rw [hs]; omega)
        have i3 : I64 (rt (rd c.Insts (rd l (i : Int)).Inst)) := by simp only [I64]; omega
        simp only [novationref10_byRate.l0, e1, novationref1_Whole.f, novationref1_Sized.f, novationref1_Times.f, novationref1_Plus.f]
        rw [if_pos (by omega), if_pos (by omega), if_pos ⟨lk.1, lk.2.1⟩]
        cases b with
        | true =>
          simp only [if_true] at hrt
          subst hrt
          simp only [if_true, if_pos hq, if_pos b1, if_pos i3, if_pos (And.intro b2 b3), Option.bind_some]
          simp only [legBy] at b4
          rw [if_pos ⟨b5, b4⟩, Option.bind_some]
          rfl
        | false =>
          simp only [Bool.false_eq_true, if_false] at hrt
          subst hrt
          simp only [Bool.false_eq_true, if_false, if_pos hq, if_pos b1, if_pos i3, if_pos (And.intro b2 b3), Option.bind_some]
          simp only [legBy] at b4
          rw [if_pos ⟨b5, b4⟩, Option.bind_some]
          rfl
      · simp only [novationref10_byRate.l0]; rw [if_neg (by omega)]
    rw [h]
    simp [hl]
  · simp [h]
end Go.Ax

/- The greatest exposure and the worst: the program's and the reference's are the same ones. -/
set_option linter.unusedVariables false
set_option linter.unusedSimpArgs false
set_option maxRecDepth 100000
namespace Go.Ax
open Go
def qStep (l : List api_Leg) (inst : Int) (i : Nat) (s : Int) : Int := if (rd l (i : Int)).Inst = inst then (rd l (i : Int)).Q else s
def oStep (o : List api_Open) (inst : Int) (i : Nat) (s : Int × Int) : Int × Int := if (rd o (i : Int)).Inst = inst then ((rd o (i : Int)).Buy, (rd o (i : Int)).Sell) else s
def qAt (l : List api_Leg) (inst : Int) : Int := itr (qStep l inst) l.length 0
def oAt (o : List api_Open) (inst : Int) : Int × Int := itr (oStep o inst) o.length (0, 0)
def topOf (l : List api_Leg) (o : List api_Open) (inst : Int) : Int := if ((qAt l inst - (oAt o inst).2).natAbs : Int) > ((qAt l inst + (oAt o inst).1).natAbs : Int) then ((qAt l inst - (oAt o inst).2).natAbs : Int) else ((qAt l inst + (oAt o inst).1).natAbs : Int)
theorem qAt_I64 {l : List api_Leg} (hI : LegI l) (inst : Int) : I64 (qAt l inst) := by
  have : ∀ n, n ≤ l.length → I64 (itr (qStep l inst) n 0) := by
    intro n
    induction n with
    | zero => intro _; simp only [itr, I64]; omega
    | succ n ih =>
      intro hn
      simp only [itr, qStep]
      split
      · exact hI n (by omega)
      · exact ih (by omega)
  exact this _ (Nat.le_refl _)
theorem oAt_bound {c : api_Config} {o : List api_Open} (h : opensOk c o = true) (inst : Int) : 0 ≤ (oAt o inst).1 ∧ (oAt o inst).1 ≤ 33000000000 ∧ 0 ≤ (oAt o inst).2 ∧ (oAt o inst).2 ≤ 33000000000 := by
  obtain ⟨op, _⟩ := opensOk_open h
  have : ∀ n, n ≤ o.length → 0 ≤ (itr (oStep o inst) n (0, 0)).1 ∧ (itr (oStep o inst) n (0, 0)).1 ≤ 33000000000 ∧ 0 ≤ (itr (oStep o inst) n (0, 0)).2 ∧ (itr (oStep o inst) n (0, 0)).2 ≤ 33000000000 := by
    intro n
    induction n with
    | zero => intro _; simp [itr]
    | succ n ih =>
      intro hn
      simp only [itr, oStep]
      split
      · have := op n (by omega); unfold openOk at this; simp only; omega
      · exact ih (by omega)
  exact this _ (Nat.le_refl _)
theorem top_bound {c : api_Config} {l : List api_Leg} {o : List api_Open} (h : opensOk c o = true) (hI : LegI l) (inst : Int) : 0 ≤ topOf l o inst ∧ topOf l o inst ≤ 9223372036854775808 + 33000000000 := by
  have h1 := qAt_I64 hI inst
  have h2 := oAt_bound h inst
  simp only [I64] at h1
  unfold topOf
  split <;> omega
/-- How the greatest exposure is told. -/
def topAns (c : api_Config) (l : List api_Leg) (o : List api_Open) (inst : Int) : Int × Int :=
  if legsOk c l = true ∧ opensOk c o = true then (if inst < 0 ∨ inst ≥ c.Insts.length then (0, 3) else (topOf l o inst, 0)) else (0, 1)
theorem cmpI_lt (a b : Int) : (cmpI a b < 0) = (a < b) := by
  unfold cmpI
  by_cases h : a < b
  · simp [h]
  · by_cases h2 : a = b <;> simp [h, h2]
theorem cmpI_gt (a b : Int) : (cmpI a b > 0) = (a > b) := by
  unfold cmpI
  by_cases h : a < b
  · simp [h]; omega
  · by_cases h2 : a = b
    · simp [h2]
    · simp [h, h2]; omega
section
variable {c : api_Config} {l : List api_Leg} {o : List api_Open} (hn : c.Insts.length < 2 ^ 59) (hl : l.length < 2 ^ 59) (ho : o.length < 2 ^ 59) (hI : LegI l)
include hn hl ho hI
theorem need_Top_eq (inst : Int) : need_Top.f c l o inst = some (topAns c l o inst) := by
  unfold need_Top.f
  simp only [need_Legs_eq c l hn hl, need_Opens_eq c o hn ho, Option.bind_some]
  unfold topAns
  by_cases h1 : legsOk c l = true
  · by_cases h2 : opensOk c o = true
    · have hk : legsOk c l = true ∧ opensOk c o = true := ⟨h1, h2⟩
      rw [if_neg (by simp [h1]), if_neg (by simp [h2]), if_pos hk]
      by_cases h3 : inst < 0
      · simp [h3]
      by_cases h4 : inst ≥ (c.Insts.length : Int)
      · simp [h3, h4]
      rw [if_neg h3, if_neg h4, if_neg (by omega)]
      have e0 : need_Top.l0 l inst FUEL 0 0 = some (qAt l inst, (l.length : Int)) := by
        have := loop_fold (fun k i (s : Int) => need_Top.l0 l inst k s i) l.length (qStep l inst) (fun _ _ => True) (fun s => (s, (l.length : Int))) 0 (fun k i s hi _ => ⟨?_, trivial⟩) (fun k s _ => ?_) trivial hl
        · exact this.1
        · have e1 := wsucc (i := i) (by omega)
          simp only [need_Top.l0, e1, qStep]
          rw [if_pos (by omega), if_pos (by omega)]
          split <;> rfl
        · simp only [need_Top.l0]; rw [if_neg (by omega)]
      have e5 : need_Top.l1 o inst FUEL 0 0 0 = some ((oAt o inst).1, (oAt o inst).2, (o.length : Int)) := by
        have := loop_fold (fun k i (s : Int × Int) => need_Top.l1 o inst k s.1 s.2 i) o.length (oStep o inst) (fun _ _ => True) (fun s => (s.1, s.2, (o.length : Int))) (0, 0) (fun k i s hi _ => ⟨?_, trivial⟩) (fun k s _ => ?_) trivial ho
        · exact this.1
        · have e1 := wsucc (i := i) (by omega)
          simp only [need_Top.l1, e1, oStep]
          rw [if_pos (by omega), if_pos (by omega)]
          split <;> rfl
        · simp only [need_Top.l1]; rw [if_neg (by omega)]
      have q := qAt_I64 hI inst
      obtain ⟨b1, b2, b3, b4⟩ := oAt_bound h2 inst
      generalize hq : qAt l inst = Q at *
      generalize hb : (oAt o inst).1 = B at *
      generalize hs : (oAt o inst).2 = S at *
      have ib : I64 B := by simp only [I64]; omega
      have is : I64 S := by simp only [I64]; omega
      have q' := q
      simp only [I64] at q'
      have w1 : Wid (Q + B) := by simp only [Wid]; omega
      have w2 : Wid (Q - S) := by simp only [Wid]; omega
      have w3 : Wid ((Q + B).natAbs : Int) := by simp only [Wid]; omega
      have w4 : Wid ((Q - S).natAbs : Int) := by simp only [Wid]; omega
      have w5 : Wid Q := by simp only [Wid]; omega
      have w6 : Wid B := by simp only [Wid]; omega
      have w7 : Wid S := by simp only [Wid]; omega
      simp only [e0, e5, Option.bind_some, wide_Of.f, if_pos q, if_pos ib, if_pos is, wide_Add.f, wide_Sub.f, wide_Abs.f, wide_Cmp.f, if_pos (And.intro w5 w6), if_pos (And.intro w5 w7), wfitV_of w1, wfitV_of w2, if_pos w1, if_pos w2, wfitV_of w3, wfitV_of w4, cmpI_lt, topOf, hq, hb, hs]
      by_cases hlt : ((Q + B).natAbs : Int) < ((Q - S).natAbs : Int)
      · rw [if_pos hlt, if_pos hlt]
      · rw [if_neg hlt, if_neg hlt]
    · have hk : ¬ (legsOk c l = true ∧ opensOk c o = true) := fun h => h2 h.2
      rw [if_neg (by simp [h1]), if_pos (by simpa using h2), if_neg hk]
  · have hk : ¬ (legsOk c l = true ∧ opensOk c o = true) := fun h => h1 h.1
    rw [if_pos (by simpa using h1), if_neg hk]
theorem rTop_eq (inst : Int) : novationref10_Top.f c l o inst = some (topAns c l o inst) := by
  unfold novationref10_Top.f
  simp only [rLegs_eq c l hn hl, rOpens_eq c o hn ho, Option.bind_some]
  unfold topAns
  by_cases h1 : legsOk c l = true
  · by_cases h2 : opensOk c o = true
    · have hk : legsOk c l = true ∧ opensOk c o = true := ⟨h1, h2⟩
      rw [if_neg (by simp [h1]), if_neg (by simp [h2]), if_pos hk]
      by_cases h3 : inst < 0
      · simp [h3]
      by_cases h4 : inst ≥ (c.Insts.length : Int)
      · simp [h3, h4]
      rw [if_neg h3, if_neg h4, if_neg (by omega)]
      have e0 : novationref10_Top.l0 l inst FUEL 0 0 = some (qAt l inst, (l.length : Int)) := by
        have := loop_fold (fun k i (s : Int) => novationref10_Top.l0 l inst k s i) l.length (qStep l inst) (fun _ _ => True) (fun s => (s, (l.length : Int))) 0 (fun k i s hi _ => ⟨?_, trivial⟩) (fun k s _ => ?_) trivial hl
        · exact this.1
        · have e1 := wsucc (i := i) (by omega)
          have hq := hI i hi
          simp only [novationref10_Top.l0, e1, qStep, novationref1_Whole.f, if_pos hq, Option.bind_some]
          rw [if_pos (by omega), if_pos (by omega)]
          split <;> rfl
        · simp only [novationref10_Top.l0]; rw [if_neg (by omega)]
      have e5 : novationref10_Top.l1 o inst FUEL 0 0 0 = some ((oAt o inst).1, (oAt o inst).2, (o.length : Int)) := by
        obtain ⟨op, _⟩ := opensOk_open h2
        have := loop_fold (fun k i (s : Int × Int) => novationref10_Top.l1 o inst k s.1 s.2 i) o.length (oStep o inst) (fun _ _ => True) (fun s => (s.1, s.2, (o.length : Int))) (0, 0) (fun k i s hi _ => ⟨?_, trivial⟩) (fun k s _ => ?_) trivial ho
        · exact this.1
        · have e1 := wsucc (i := i) (by omega)
          have hk := op i hi
          unfold openOk at hk
          have i1 : I64 (rd o (i : Int)).Buy := by simp only [I64]; omega
          have i2 : I64 (rd o (i : Int)).Sell := by simp only [I64]; omega
          simp only [novationref10_Top.l1, e1, oStep, novationref1_Whole.f, if_pos i1, if_pos i2, Option.bind_some]
          rw [if_pos (by omega), if_pos (by omega)]
          split <;> rfl
        · simp only [novationref10_Top.l1]; rw [if_neg (by omega)]
      have q := qAt_I64 hI inst
      obtain ⟨b1, b2, b3, b4⟩ := oAt_bound h2 inst
      generalize hq : qAt l inst = Q at *
      generalize hb : (oAt o inst).1 = B at *
      generalize hs : (oAt o inst).2 = S at *
      simp only [I64] at q
      have t := two300
      have w1 : BigOk (Q + B) := bigOk_of (by omega)
      have w2 : BigOk (Q - S) := bigOk_of (by omega)
      have w3 : BigOk ((Q + B).natAbs : Int) := bigOk_of (by omega)
      have w4 : BigOk ((Q - S).natAbs : Int) := bigOk_of (by omega)
      have w5 : BigOk Q := bigOk_of (by omega)
      have w6 : BigOk B := bigOk_of (by omega)
      have w7 : BigOk S := bigOk_of (by omega)
      simp only [e0, e5, Option.bind_some, novationref1_Plus.f, novationref1_Less.f, novationref1_Sized.f, novationref1_Cmp.f, if_pos (And.intro w5 w6), if_pos (And.intro w5 w7), if_pos w1, if_pos w2, if_pos (And.intro w4 w3), cmpI_gt, topOf, hq, hb, hs]
      by_cases hlt : ((Q + B).natAbs : Int) < ((Q - S).natAbs : Int)
      · rw [if_pos hlt, if_pos hlt]
      · rw [if_neg hlt, if_neg hlt]
    · have hk : ¬ (legsOk c l = true ∧ opensOk c o = true) := fun h => h2 h.2
      rw [if_neg (by simp [h1]), if_pos (by simpa using h2), if_neg hk]
  · have hk : ¬ (legsOk c l = true ∧ opensOk c o = true) := fun h => h1 h.1
    rw [if_pos (by simpa using h1), if_neg hk]
end
/-- What the first n instruments want at the worst. -/
def wTerm (c : api_Config) (l : List api_Leg) (o : List api_Open) (j : Nat) : Int := topOf l o (j : Int) * (rd c.Insts (j : Int)).Rate
def wSum (c : api_Config) (l : List api_Leg) (o : List api_Open) (n : Nat) : Int := ((List.range n).map (wTerm c l o)).sum
theorem wSum_succ (c : api_Config) (l : List api_Leg) (o : List api_Open) (n : Nat) : wSum c l o (n + 1) = wSum c l o n + wTerm c l o n := by simp [wSum, List.range_succ]
theorem wTerm_bound {c : api_Config} {l : List api_Leg} {o : List api_Open} (h : opensOk c o = true) (hI : LegI l) (i : Nat) (hi : i < c.Insts.length) : 0 ≤ wTerm c l o i ∧ wTerm c l o i ≤ (9223372036854775808 + 33000000000) * 1000000000 ∧ 0 ≤ (rd c.Insts (i : Int)).Rate ∧ (rd c.Insts (i : Int)).Rate ≤ 1000000000 := by
  have h1 := top_bound h hI (i : Int)
  have h2 := (instOk_rate ((planOk_inst (opensOk_open h).2).1 i hi)).1
  exact ⟨Int.mul_nonneg h1.1 h2.1, Int.mul_le_mul h1.2 h2.2 h2.1 (by omega), h2⟩
theorem wSum_bound {c : api_Config} {l : List api_Leg} {o : List api_Open} (h : opensOk c o = true) (hI : LegI l) (n : Nat) (hn : n ≤ c.Insts.length) : 0 ≤ wSum c l o n ∧ wSum c l o n ≤ n * ((9223372036854775808 + 33000000000) * 1000000000) := by
  induction n with
  | zero => simp [wSum]
  | succ n ih =>
    have h1 := ih (by omega)
    have h2 := wTerm_bound h hI n (by omega)
    rw [wSum_succ]
    omega
def worstAns (c : api_Config) (l : List api_Leg) (o : List api_Open) : Int × Int := if legsOk c l = true ∧ opensOk c o = true then (wSum c l o c.Insts.length, 0) else (0, 1)
section
variable {c : api_Config} {l : List api_Leg} {o : List api_Open} (hn : c.Insts.length < 2 ^ 59) (hl : l.length < 2 ^ 59) (ho : o.length < 2 ^ 59) (hI : LegI l)
include hn hl ho hI
theorem need_Worst_eq : need_Worst.f c l o = some (worstAns c l o) := by
  unfold need_Worst.f
  simp only [need_Legs_eq c l hn hl, need_Opens_eq c o hn ho, Option.bind_some]
  unfold worstAns
  by_cases h1 : legsOk c l = true
  · by_cases h2 : opensOk c o = true
    · have hk : legsOk c l = true ∧ opensOk c o = true := ⟨h1, h2⟩
      rw [if_neg (by simp [h1]), if_neg (by simp [h2]), if_pos hk]
      obtain ⟨_, _, h6⟩ := planOk_inst (opensOk_open h2).2
      have e0 : need_Worst.l0 c l o FUEL [] 0 = some ((List.range c.Insts.length).map (wTerm c l o), (c.Insts.length : Int)) := by
        have := (loop_fold (fun k i s => need_Worst.l0 c l o k s i) c.Insts.length (fun i s => s ++ [wTerm c l o i]) (fun i s => s = (List.range i).map (wTerm c l o)) (fun s => (s, (c.Insts.length : Int))) [] (fun k i s hi hs => ⟨?_, ?_⟩) (fun k s _ => ?_) rfl hn)
        · obtain ⟨e1, e2⟩ := this
          rw [e2] at e1
          exact e1
        · have e1 := wsucc (i := i) (by omega)
          have hb := wTerm_bound h2 hI i hi
          have ht := top_bound h2 hI (i : Int)
          have ha : topAns c l o (i : Int) = (topOf l o (i : Int), 0) := by unfold topAns; rw [if_pos ⟨h1, h2⟩, if_neg (by omega)]
          have w1 : Wid (topOf l o (i : Int)) := by simp only [Wid]; omega
          have w2 : I64 (rd c.Insts (i : Int)).Rate := by simp only [I64]; omega
          have w3 : Wid (topOf l o (i : Int) * (rd c.Insts (i : Int)).Rate) := by have : wTerm c l o i = topOf l o (i : Int) * (rd c.Insts (i : Int)).Rate := rfl; rw [← this]; simp only [Wid]; omega
          simp only [need_Worst.l0, e1, need_Top_eq hn hl ho hI, Option.bind_some, ha, wide_Times.f, if_pos (And.intro w1 w2), wfitV_of w3]
          rw [if_pos (by omega), if_pos (by omega), if_pos (by rw [hs]; simp; omega)]
          rfl
        · rw [hs]; simp [List.range_succ]
        · simp only [need_Worst.l0]; rw [if_neg (by omega)]
      have hb := wSum_bound h2 hI c.Insts.length (Nat.le_refl _)
      have hw : Wid (wSum c l o c.Insts.length) := by simp only [Wid]; omega
      have es : wide_Sum.f ((List.range c.Insts.length).map (wTerm c l o)) = some (wSum c l o c.Insts.length, true) := by
        unfold wide_Sum.f
        rw [if_pos]
        · show some (wfitV (wSum c l o c.Insts.length), wfit (wSum c l o c.Insts.length)) = _
          rw [wfitV_of hw, wfit_of hw]
        · refine ⟨?_, by simp; omega⟩
          rw [List.all_eq_true]
          intro x hx
          obtain ⟨j, hj, rfl⟩ := List.mem_map.1 hx
          have := wTerm_bound h2 hI j (by simpa using hj)
          exact wfit_of (by simp only [Wid]; omega)
      simp only [e0, Option.bind_some, es]
    · have hk : ¬ (legsOk c l = true ∧ opensOk c o = true) := fun h => h2 h.2
      rw [if_neg (by simp [h1]), if_pos (by simpa using h2), if_neg hk]
  · have hk : ¬ (legsOk c l = true ∧ opensOk c o = true) := fun h => h1 h.1
    rw [if_pos (by simpa using h1), if_neg hk]
theorem rWorst_eq : novationref10_Worst.f c l o = some (worstAns c l o) := by
  unfold novationref10_Worst.f
  simp only [rLegs_eq c l hn hl, rOpens_eq c o hn ho, Option.bind_some]
  unfold worstAns
  by_cases h1 : legsOk c l = true
  · by_cases h2 : opensOk c o = true
    · have hk : legsOk c l = true ∧ opensOk c o = true := ⟨h1, h2⟩
      rw [if_neg (by simp [h1]), if_neg (by simp [h2]), if_pos hk]
      obtain ⟨_, _, h6⟩ := planOk_inst (opensOk_open h2).2
      have e0 : novationref10_Worst.l0 c l o FUEL 0 0 = some (wSum c l o c.Insts.length, (c.Insts.length : Int)) := by
        have := (loop_fold (fun k i s => novationref10_Worst.l0 c l o k s i) c.Insts.length (fun i s => s + wTerm c l o i) (fun i s => s = wSum c l o i) (fun s => (s, (c.Insts.length : Int))) 0 (fun k i s hi hs => ⟨?_, ?_⟩) (fun k s _ => ?_) rfl hn)
        · obtain ⟨e1, e2⟩ := this
          rw [e2] at e1
          exact e1
        · have e1 := wsucc (i := i) (by omega)
          have hb := wTerm_bound h2 hI i hi
          have ht := top_bound h2 hI (i : Int)
          have hs2 := wSum_bound h2 hI i (by omega)
          have ha : topAns c l o (i : Int) = (topOf l o (i : Int), 0) := by unfold topAns; rw [if_pos ⟨h1, h2⟩, if_neg (by omega)]
          have t : (7 : Nat) * ((9223372036854775808 + 33000000000) * 1000000000) < 2 ^ 250 := by decide
          have w1 : BigOk (topOf l o (i : Int)) := bigOk_of (by omega)
          have w2 : I64 (rd c.Insts (i : Int)).Rate := by simp only [I64]; omega
          have w3 : BigOk (rd c.Insts (i : Int)).Rate := bigOk_of (by omega)
          have w4 : BigOk s := bigOk_of (by rw [hs]; omega)
          have w5 : BigOk (topOf l o (i : Int) * (rd c.Insts (i : Int)).Rate) := bigOk_of (by have : wTerm c l o i = topOf l o (i : Int) * (rd c.Insts (i : Int)).Rate := rfl; rw [← this]; omega)
          simp only [novationref10_Worst.l0, e1, rTop_eq hn hl ho hI, Option.bind_some, ha, novationref1_Whole.f, novationref1_Times.f, novationref1_Plus.f, if_pos w2, if_pos (And.intro w1 w3), if_pos (And.intro w4 w5)]
          rw [if_pos (by omega), if_pos (by omega)]
          rfl
        · rw [hs, wSum_succ]
        · simp only [novationref10_Worst.l0]; rw [if_neg (by omega)]
      simp only [e0, Option.bind_some]
    · have hk : ¬ (legsOk c l = true ∧ opensOk c o = true) := fun h => h2 h.2
      rw [if_neg (by simp [h1]), if_pos (by simpa using h2), if_neg hk]
  · have hk : ¬ (legsOk c l = true ∧ opensOk c o = true) := fun h => h1 h.1
    rw [if_pos (by simpa using h1), if_neg hk]
end
theorem need_Covers_eq (s w : Int) (hs : I64 s) : need_Covers.f s w = some (decide (cmpI s w ≥ 0)) := by
  simp only [need_Covers.f, wide_Of.f, if_pos hs, Option.bind_some, wide_Cmp.f]
theorem need_known : novationlaw14_known.f = some true := by decide +kernel
end Go.Ax
