/- The types of the program. -/
import Derived.Test.YtmpbhgofllbejaaGen
import Derived.Test.YtmpbhgofllbejaaSd4
set_option linter.unusedVariables false
set_option linter.unusedSimpArgs false
set_option linter.unusedVariables false
namespace Go.Ax
open Go
structure api_Trade where
  Buy : Int
  Sell : Int
  Inst : Int
  Q : Int
  P : Int
deriving DecidableEq
instance : Inhabited api_Trade := ⟨⟨0, 0, 0, 0, 0⟩⟩
def api_Trade.D (x : api_Trade) : List D := [.v (.int .i64 x.Buy), .v (.int .i64 x.Sell), .v (.int .i64 x.Inst), .v (.int .i64 x.Q), .v (.int .i64 x.P)]
attribute [go_sem] api_Trade.D
structure api_Entry where
  Kind : Int
  N : Int
  X : Int
deriving DecidableEq
instance : Inhabited api_Entry := ⟨⟨0, 0, 0⟩⟩
def api_Entry.D (x : api_Entry) : List D := [.v (.int .i64 x.Kind), .v (.int .i64 x.N), .v (.int .i64 (wHi x.X)), .v (.int .u64 (wLo x.X))]
attribute [go_sem] api_Entry.D
structure api_Pos where
  Acc : Int
  Inst : Int
  Q : Int
deriving DecidableEq
instance : Inhabited api_Pos := ⟨⟨0, 0, 0⟩⟩
def api_Pos.D (x : api_Pos) : List D := [.v (.int .i64 x.Acc), .v (.int .i64 x.Inst), .v (.int .i64 x.Q)]
attribute [go_sem] api_Pos.D
structure api_Gain where
  Acc : Int
  X : Int
deriving DecidableEq
instance : Inhabited api_Gain := ⟨⟨0, 0⟩⟩
def api_Gain.D (x : api_Gain) : List D := [.v (.int .i64 x.Acc), .v (.int .i64 x.X)]
attribute [go_sem] api_Gain.D
structure novationref10_Part where
  Kind : Int
  N : Int
  X : Int
deriving DecidableEq
instance : Inhabited novationref10_Part := ⟨⟨0, 0, 0⟩⟩
def novationref10_Part.D (x : novationref10_Part) : List D := [.v (.int .i64 x.Kind), .v (.int .i64 x.N), .v (.bool (decide ((x.X : Int) < 0))), .l (rowsU (digs (x.X : Int).natAbs))]
attribute [go_sem] novationref10_Part.D

@[go_sem] theorem api_Trade_rd (l : List api_Trade) (i : Int) : (rowsD api_Trade.D l).getD i.toNat [.v (.int .i64 0), .v (.int .i64 0), .v (.int .i64 0), .v (.int .i64 0), .v (.int .i64 0)] = api_Trade.D (rd l i) := getD_rowsD api_Trade.D l i
@[go_sem] theorem api_Trade_len (l : List api_Trade) : (∀ r ∈ rowsD api_Trade.D l, r.length = 5) = True := rowsD_len api_Trade.D (fun _ => rfl) l
@[go_sem] theorem api_Entry_rd (l : List api_Entry) (i : Int) : (rowsD api_Entry.D l).getD i.toNat [.v (.int .i64 0), .v (.int .i64 0), .v (.int .i64 0), .v (.int .u64 0)] = api_Entry.D (rd l i) := getD_rowsD api_Entry.D l i
@[go_sem] theorem api_Entry_len (l : List api_Entry) : (∀ r ∈ rowsD api_Entry.D l, r.length = 4) = True := rowsD_len api_Entry.D (fun _ => rfl) l
@[go_sem] theorem api_Pos_rd (l : List api_Pos) (i : Int) : (rowsD api_Pos.D l).getD i.toNat [.v (.int .i64 0), .v (.int .i64 0), .v (.int .i64 0)] = api_Pos.D (rd l i) := getD_rowsD api_Pos.D l i
@[go_sem] theorem api_Pos_len (l : List api_Pos) : (∀ r ∈ rowsD api_Pos.D l, r.length = 3) = True := rowsD_len api_Pos.D (fun _ => rfl) l
@[go_sem] theorem api_Gain_rd (l : List api_Gain) (i : Int) : (rowsD api_Gain.D l).getD i.toNat [.v (.int .i64 0), .v (.int .i64 0)] = api_Gain.D (rd l i) := getD_rowsD api_Gain.D l i
@[go_sem] theorem api_Gain_len (l : List api_Gain) : (∀ r ∈ rowsD api_Gain.D l, r.length = 2) = True := rowsD_len api_Gain.D (fun _ => rfl) l
@[go_sem] theorem novationref10_Part_rd (l : List novationref10_Part) (i : Int) : (rowsD novationref10_Part.D l).getD i.toNat [.v (.int .i64 0), .v (.int .i64 0), .v (.bool false), .l []] = novationref10_Part.D (rd l i) := by
  have e : novationref10_Part.D (default : novationref10_Part) = [.v (.int .i64 0), .v (.int .i64 0), .v (.bool false), .l []] := by simp [novationref10_Part.D, default, digs_zero, rowsU]
  rw [← e]; exact getD_rowsD novationref10_Part.D l i
@[go_sem] theorem novationref10_Part_len (l : List novationref10_Part) : (∀ r ∈ rowsD novationref10_Part.D l, r.length = 4) = True := rowsD_len novationref10_Part.D (fun _ => rfl) l
@[go_sem] theorem i64D_rd (l : List Int) (i : Int) : (rowsD i64D l).getD i.toNat [.v (.int .i64 0)] = i64D (rd l i) := getD_rowsD i64D l i
@[go_sem] theorem i64D_len (l : List Int) : (∀ r ∈ rowsD i64D l, r.length = 1) = True := rowsD_len i64D (fun _ => rfl) l
@[go_sem] theorem boolD_rd (l : List Bool) (i : Int) : (rowsD boolD l).getD i.toNat [.v (.bool false)] = boolD (rd l i) := getD_rowsD boolD l i
@[go_sem] theorem boolD_len (l : List Bool) : (∀ r ∈ rowsD boolD l, r.length = 1) = True := rowsD_len boolD (fun _ => rfl) l
@[go_sem] theorem wD_rd (l : List Int) (i : Int) : (rowsD wD l).getD i.toNat [.v (.int .i64 0), .v (.int .u64 0)] = wD (rd l i) := getD_rowsD wD l i
@[go_sem] theorem wD_len (l : List Int) : (∀ r ∈ rowsD wD l, r.length = 2) = True := rowsD_len wD (fun _ => rfl) l
@[go_sem] theorem bigDs_rd (l : List Int) (i : Int) : (rowsD bigDs l).getD i.toNat [.v (.bool false), .l []] = bigDs (rd l i) := by
  have e : bigDs (default : Int) = [.v (.bool false), .l []] := by show bigDs 0 = _; simp [bigDs, digs_zero, rowsU]
  rw [← e]; exact getD_rowsD bigDs l i
@[go_sem] theorem bigDs_len (l : List Int) : (∀ r ∈ rowsD bigDs l, r.length = 2) = True := rowsD_len bigDs (fun _ => rfl) l
attribute [go_sem] i64D boolD wD
@[simp] theorem wHi_z : wHi 0 = 0 := by decide
@[simp] theorem wLo_z : wLo 0 = 0 := by decide
@[go_sem] theorem digs_z : digs (Int.natAbs 0) = [] := digs_zero
@[go_sem] theorem rowsU_z : rowsU [] = [] := congrArg id rfl
def api_Trade.ok (x : api_Trade) : Prop := I64 x.Buy ∧ I64 x.Sell ∧ I64 x.Inst ∧ I64 x.Q ∧ I64 x.P
def api_Entry.ok (x : api_Entry) : Prop := I64 x.Kind ∧ I64 x.N ∧ Wid x.X
def api_Pos.ok (x : api_Pos) : Prop := I64 x.Acc ∧ I64 x.Inst ∧ I64 x.Q
def api_Gain.ok (x : api_Gain) : Prop := I64 x.Acc ∧ I64 x.X
def novationref10_Part.ok (x : novationref10_Part) : Prop := I64 x.Kind ∧ I64 x.N ∧ False
end Go.Ax

/- The functions on numbers, amounts and wide numbers, as printed functions lean on them. -/
set_option linter.unusedVariables false
namespace Go.Ax
open Go
/-- Small enough for the proofs about big numbers. -/
abbrev BigOk (z : Int) : Prop := z.natAbs < BB ^ 12
instance (x : Int) : Decidable (I64 x) := by unfold I64; infer_instance
def novationref1_Plus.f (a b : Int) : Option Int := if BigOk a ∧ BigOk b then some (a + b) else none
def novationref1_Less.f (a b : Int) : Option Int := if BigOk a ∧ BigOk b then some (a - b) else none
def novationref1_Times.f (a b : Int) : Option Int := if BigOk a ∧ BigOk b then some (a * b) else none
def novationref1_Sized.f (a : Int) : Option Int := if BigOk a then some (a.natAbs : Int) else none
def novationref1_Turned.f (a : Int) : Option Int := if BigOk a then some (-a) else none
def novationref1_Sign.f (a : Int) : Option Int := if BigOk a then some (cmpI a 0) else none
def novationref1_Cmp.f (a b : Int) : Option Int := if BigOk a ∧ BigOk b then some (cmpI a b) else none
def novationref1_Int.f (a : Int) : Option (Int × Bool) := if BigOk a then some (fitV a, fit a) else none
def novationref1_Whole.f (a : Int) : Option Int := if I64 a then some a else none
def novationref1_Wide.f (a : Int) : Option Int := if Wid a then some a else none
def novationhelp_Wide.f (w z : Int) : Option Bool := if Wid w ∧ BigOk z then some (decide (w = z)) else none
def amount_Size.f (a : Int) : Option Int := if I64 a then some (a.natAbs : Int) else none
def wide_Of.f (a : Int) : Option Int := if I64 a then some a else none
def wide_Mul.f (a b : Int) : Option Int := if I64 a ∧ I64 b then some (a * b) else none
def wide_Add.f (a b : Int) : Option (Int × Bool) := if Wid a ∧ Wid b then some (wfitV (a + b), wfit (a + b)) else none
def wide_Sub.f (a b : Int) : Option (Int × Bool) := if Wid a ∧ Wid b then some (wfitV (a - b), wfit (a - b)) else none
def wide_Neg.f (a : Int) : Option (Int × Bool) := if Wid a then some (wfitV (-a), wfit (-a)) else none
def wide_Abs.f (a : Int) : Option (Int × Bool) := if Wid a then some (wfitV (a.natAbs : Int), wfit (a.natAbs : Int)) else none
def wide_Times.f (a k : Int) : Option (Int × Bool) := if Wid a ∧ I64 k then some (wfitV (a * k), wfit (a * k)) else none
def wide_Cmp.f (a b : Int) : Option Int := some (cmpI a b)
def wide_Sign.f (a : Int) : Option Int := some (cmpI a 0)
def wide_Int.f (a : Int) : Option (Int × Bool) := if Wid a then some (fitV a, fit a) else none
def wide_Sum.f (l : List Int) : Option (Int × Bool) := if l.all wfit = true ∧ l.length ≤ 100000000000 then some (wfitV l.sum, wfit l.sum) else none
end Go.Ax

/- The functions of the program as Lean functions, printed by gen.py. -/
set_option linter.unusedVariables false
set_option maxRecDepth 100000
namespace Go.Ax
open Go
def mark_Price.f (a0 : Int) : Option Bool := (if a0 ≥ 1 then (some (decide (a0 ≤ 1000000000000))) else (some false))

def mark_Right.l0 (a0 : api_Trade) : Nat → Int → Option (Flow Int Bool)
  | 0, _ => none
  | k0 + 1, x10_0 => (if x10_0 < 2 then (if 0 ≤ x10_0 ∧ x10_0 < 2 then (if x10_0 < (([a0.Buy, a0.Sell] : List Int).length : Int) then (if (rd ([a0.Buy, a0.Sell] : List Int) x10_0) < 0 then (some (.ret false)) else (if (rd ([a0.Buy, a0.Sell] : List Int) x10_0) > 24 then (some (.ret false)) else (mark_Right.l0 a0 k0 (IntKind.i64.wrap (x10_0 + 1))))) else none) else none) else (some (.out x10_0)))
def mark_Right.f (a0 : api_Trade) : Option Bool := ((mark_Right.l0 a0 FUEL 0).bind fun f0 => f0.go fun s0 => (if ¬(a0.Buy = a0.Sell) then (if a0.Inst ≥ 0 then (if a0.Inst < 6 then (if a0.Q ≥ 1 then (if a0.Q ≤ 1000000000 then ((mark_Price.f a0.P).bind fun y7_28 => (some y7_28)) else (some false)) else (some false)) else (some false)) else (some false)) else (some false)))

def mark_entry.f (a0 : Int) (a1 : Int) : Option api_Entry := (if a0 = 0 then (some (⟨2, 0, a1⟩ : api_Entry)) else (some (⟨5, a0, a1⟩ : api_Entry)))

def mark_Trade.f (a0 : api_Trade) (a1 : Int) : Option ((List api_Entry) × Int) := ((mark_Right.f a0).bind fun y1_1 => (if ¬(y1_1 = true) then (some (([] : List api_Entry), 1)) else ((mark_Price.f a1).bind fun y1_5 => (if ¬(y1_5 = true) then (some (([] : List api_Entry), 1)) else (if a1 = a0.P then (some (([] : List api_Entry), 0)) else ((wide_Mul.f a0.Q (IntKind.i64.wrap (a1 - a0.P))).bind fun y5_8 => ((mark_entry.f a0.Buy y5_8).bind fun y5_9 => ((wide_Mul.f a0.Q (IntKind.i64.wrap (a0.P - a1))).bind fun y5_18 => ((mark_entry.f a0.Sell y5_18).bind fun y5_19 => (some ([y5_9, y5_19], 0)))))))))))

def stock_key.f (a0 : Int) (a1 : Int) : Option Bool := (if a0 ≥ 0 then (if a0 ≤ 24 then (if a1 ≥ 0 then (some (decide (a1 < 6))) else (some false)) else (some false)) else (some false))

def stock_Quantity.f (a0 : Int) : Option Bool := (some (a0 != (-9223372036854775808)))

def stock_order.f (a0 : Int) (a1 : Int) (a2 : api_Pos) : Option Int := (if ¬(a0 = a2.Acc) then (some (IntKind.i64.wrap (a0 - a2.Acc))) else (some (IntKind.i64.wrap (a1 - a2.Inst))))

def stock_Right.l0 (a0 : List api_Pos) : Nat → Int → Option (Flow Int Bool)
  | 0, _ => none
  | k0 + 1, x7_0 => (if x7_0 < (a0.length : Int) then (if 0 ≤ x7_0 ∧ x7_0 < (a0.length : Int) then ((stock_key.f (rd a0 x7_0).Acc (rd a0 x7_0).Inst).bind fun y4_4 => (if ¬(y4_4 = true) then (some (.ret false)) else (if (rd a0 x7_0).Q = 0 then (some (.ret false)) else ((stock_Quantity.f (rd a0 x7_0).Q).bind fun y4_14 => (if ¬(y4_14 = true) then (some (.ret false)) else (if x7_0 > 0 then (if 0 ≤ IntKind.i64.wrap (x7_0 - 1) ∧ IntKind.i64.wrap (x7_0 - 1) < (a0.length : Int) then ((stock_order.f (rd a0 x7_0).Acc (rd a0 x7_0).Inst (rd a0 (IntKind.i64.wrap (x7_0 - 1)))).bind fun y4_30 => (if y4_30 ≤ 0 then (some (.ret false)) else (stock_Right.l0 a0 k0 (IntKind.i64.wrap (x7_0 + 1))))) else none) else (stock_Right.l0 a0 k0 (IntKind.i64.wrap (x7_0 + 1))))))))) else none) else (some (.out x7_0)))
def stock_Right.f (a0 : List api_Pos) : Option Bool := ((stock_Right.l0 a0 FUEL 0).bind fun f0 => f0.go fun s0 => (some true))

def mark_Flows.l0 (a0 : List api_Pos) (a1 : Int) (a2 : Int) (a3 : Int) : Nat → List api_Entry → Int → Option ((List api_Entry) × Int)
  | 0, _, _ => none
  | k1 + 1, x10_1, x28_1 => (if x28_1 < (a0.length : Int) then (if 0 ≤ x28_1 ∧ x28_1 < (a0.length : Int) then (if (rd a0 x28_1).Inst = a1 then (if ¬(a3 = a2) then ((wide_Mul.f (rd a0 x28_1).Q (IntKind.i64.wrap (a3 - a2))).bind fun y8_8 => ((mark_entry.f (rd a0 x28_1).Acc y8_8).bind fun y8_9 => (if x10_1.length + 1 ≤ 100000000000 then (mark_Flows.l0 a0 a1 a2 a3 k1 (x10_1 ++ ([y8_9])) (IntKind.i64.wrap (x28_1 + 1))) else none))) else (mark_Flows.l0 a0 a1 a2 a3 k1 x10_1 (IntKind.i64.wrap (x28_1 + 1)))) else (mark_Flows.l0 a0 a1 a2 a3 k1 x10_1 (IntKind.i64.wrap (x28_1 + 1)))) else none) else (some (x10_1, x28_1)))
def mark_Flows.f (a0 : List api_Pos) (a1 : Int) (a2 : Int) (a3 : Int) : Option ((List api_Entry) × Int) := ((stock_Right.f a0).bind fun y1_1 => (if ¬(y1_1 = true) then (some (([] : List api_Entry), 1)) else ((mark_Price.f a2).bind fun y1_5 => (if ¬(y1_5 = true) then (some (([] : List api_Entry), 1)) else ((mark_Price.f a3).bind fun y1_10 => (if ¬(y1_10 = true) then (some (([] : List api_Entry), 1)) else ((mark_Flows.l0 a0 a1 a2 a3 FUEL ([] : List api_Entry) 0).bind fun s1 => (some (s1.1, 0)))))))))

def mark_GainsRight.l0 (a0 : List api_Gain) : Nat → Int → Option (Flow Int Bool)
  | 0, _ => none
  | k0 + 1, x7_0 => (if x7_0 < (a0.length : Int) then (if 0 ≤ x7_0 ∧ x7_0 < (a0.length : Int) then (if (rd a0 x7_0).Acc < 1 then (some (.ret false)) else (if (rd a0 x7_0).Acc > 24 then (some (.ret false)) else (if (rd a0 x7_0).X = 0 then (some (.ret false)) else (if x7_0 > 0 then (if 0 ≤ IntKind.i64.wrap (x7_0 - 1) ∧ IntKind.i64.wrap (x7_0 - 1) < (a0.length : Int) then (if (rd a0 (IntKind.i64.wrap (x7_0 - 1))).Acc ≥ (rd a0 x7_0).Acc then (some (.ret false)) else (mark_GainsRight.l0 a0 k0 (IntKind.i64.wrap (x7_0 + 1)))) else none) else (mark_GainsRight.l0 a0 k0 (IntKind.i64.wrap (x7_0 + 1))))))) else none) else (some (.out x7_0)))
def mark_GainsRight.f (a0 : List api_Gain) : Option Bool := ((mark_GainsRight.l0 a0 FUEL 0).bind fun f0 => f0.go fun s0 => (some true))

def ledger_Key.f (a0 : Int) (a1 : Int) : Option Bool := (if a0 = 1 then (if a0 = 1 then (some (a1 == 0)) else (if a0 = 5 then (if a1 ≥ 1 then (some (decide (a1 ≤ 24))) else (some false)) else (if a0 = 6 then (if a0 = 6 then (if a1 ≥ 1 then (some (decide (a1 ≤ 12))) else (some false)) else (some false)) else (if a0 = 7 then (if a1 ≥ 1 then (some (decide (a1 ≤ 12))) else (some false)) else (some false))))) else (if a0 = 2 then (if a0 = 2 then (some (a1 == 0)) else (if a0 = 5 then (if a1 ≥ 1 then (some (decide (a1 ≤ 24))) else (some false)) else (if a0 = 6 then (if a0 = 6 then (if a1 ≥ 1 then (some (decide (a1 ≤ 12))) else (some false)) else (some false)) else (if a0 = 7 then (if a1 ≥ 1 then (some (decide (a1 ≤ 12))) else (some false)) else (some false))))) else (if a0 = 3 then (if a0 = 3 then (some (a1 == 0)) else (if a0 = 5 then (if a1 ≥ 1 then (some (decide (a1 ≤ 24))) else (some false)) else (if a0 = 6 then (if a0 = 6 then (if a1 ≥ 1 then (some (decide (a1 ≤ 12))) else (some false)) else (some false)) else (if a0 = 7 then (if a1 ≥ 1 then (some (decide (a1 ≤ 12))) else (some false)) else (some false))))) else (if a0 = 4 then (some (a1 == 0)) else (if a0 = 5 then (if a1 ≥ 1 then (some (decide (a1 ≤ 24))) else (some false)) else (if a0 = 6 then (if a0 = 6 then (if a1 ≥ 1 then (some (decide (a1 ≤ 12))) else (some false)) else (some false)) else (if a0 = 7 then (if a1 ≥ 1 then (some (decide (a1 ≤ 12))) else (some false)) else (some false))))))))

def mark_Gains.l0 (a0 : List api_Gain) : Nat → List (List Int) → Int → Option ((List (List Int)) × Int)
  | 0, _, _ => none
  | k1 + 1, x6_1, x28_1 => (if x28_1 < (a0.length : Int) then (if 0 ≤ x28_1 ∧ x28_1 < (a0.length : Int) then (if 0 ≤ (rd a0 x28_1).Acc ∧ (rd a0 x28_1).Acc < 25 then (if (rd a0 x28_1).Acc < (x6_1.length : Int) then ((wide_Of.f (rd a0 x28_1).X).bind fun y7_8 => (if (rd x6_1 (rd a0 x28_1).Acc).length + 1 ≤ 100000000000 then (mark_Gains.l0 a0 k1 (x6_1.set (rd a0 x28_1).Acc.toNat ((rd x6_1 (rd a0 x28_1).Acc) ++ ([y7_8]))) (IntKind.i64.wrap (x28_1 + 1))) else none)) else none) else none) else none) else (some (x6_1, x28_1)))
def mark_Gains.l1 (a1 : List api_Entry) : Nat → List (List Int) → Int → Option (Flow ((List (List Int)) × Int) ((List api_Gain) × Int))
  | 0, _, _ => none
  | k3 + 1, x6_3, x47_3 => (if x47_3 < (a1.length : Int) then (if 0 ≤ x47_3 ∧ x47_3 < (a1.length : Int) then ((ledger_Key.f (rd a1 x47_3).Kind (rd a1 x47_3).N).bind fun y12_4 => (if ¬(y12_4 = true) then (some (.ret (([] : List api_Gain), 1))) else (if (rd a1 x47_3).Kind = 5 then (if 0 ≤ (rd a1 x47_3).N ∧ (rd a1 x47_3).N < 25 then (if (rd a1 x47_3).N < (x6_3.length : Int) then (if (rd x6_3 (rd a1 x47_3).N).length + 1 ≤ 100000000000 then (mark_Gains.l1 a1 k3 (x6_3.set (rd a1 x47_3).N.toNat ((rd x6_3 (rd a1 x47_3).N) ++ ([(rd a1 x47_3).X]))) (IntKind.i64.wrap (x47_3 + 1))) else none) else none) else none) else (mark_Gains.l1 a1 k3 x6_3 (IntKind.i64.wrap (x47_3 + 1)))))) else none) else (some (.out (x6_3, x47_3))))
def mark_Gains.l2 (s3 : (List (List Int)) × Int) : Nat → List api_Gain → Int → Option (Flow ((List api_Gain) × Int) ((List api_Gain) × Int))
  | 0, _, _ => none
  | k7 + 1, x11_7, x75_7 => (if x75_7 < 25 then (if 0 ≤ x75_7 ∧ x75_7 < 25 then (if x75_7 < (s3.1.length : Int) then ((wide_Sum.f (rd s3.1 x75_7)).bind fun y21_1 => ((wide_Int.f y21_1.1).bind fun y22_1 => (if ¬(y21_1.2 = true) then (some (.ret (([] : List api_Gain), 2))) else (if ¬(y22_1.2 = true) then (some (.ret (([] : List api_Gain), 2))) else (if ¬(y22_1.1 = 0) then (if x11_7.length + 1 ≤ 100000000000 then (mark_Gains.l2 s3 k7 (x11_7 ++ ([(⟨x75_7, y22_1.1⟩ : api_Gain)])) (IntKind.i64.wrap (x75_7 + 1))) else none) else (mark_Gains.l2 s3 k7 x11_7 (IntKind.i64.wrap (x75_7 + 1)))))))) else none) else none) else (some (.out (x11_7, x75_7))))
def mark_Gains.f (a0 : List api_Gain) (a1 : List api_Entry) : Option ((List api_Gain) × Int) := ((mark_GainsRight.f a0).bind fun y1_1 => (if ¬(y1_1 = true) then (some (([] : List api_Gain), 1)) else (if (a1.length : Int) > 400 then (some (([] : List api_Gain), 1)) else ((mark_Gains.l0 a0 FUEL ([[], [], [], [], [], [], [], [], [], [], [], [], [], [], [], [], [], [], [], [], [], [], [], [], []] : List (List Int)) 0).bind fun s1 => ((mark_Gains.l1 a1 FUEL s1.1 0).bind fun f3 => f3.go fun s3 => (if s3.1.length = 25 then ((mark_Gains.l2 s3 FUEL ([] : List api_Gain) 0).bind fun f7 => f7.go fun s7 => (some (s7.1, 0))) else none))))))

def novationhelp_Gains.l0 (a0 : List api_Gain) (a1 : List api_Gain) : Nat → Int → Option (Flow Int Bool)
  | 0, _ => none
  | k1 + 1, x5_1 => (if x5_1 < (a0.length : Int) then (if 0 ≤ x5_1 ∧ x5_1 < (a0.length : Int) then (if 0 ≤ x5_1 ∧ x5_1 < (a1.length : Int) then (if ¬(((rd a0 x5_1).Acc == (rd a1 x5_1).Acc && (rd a0 x5_1).X == (rd a1 x5_1).X) = true) then (some (.ret false)) else (novationhelp_Gains.l0 a0 a1 k1 (IntKind.i64.wrap (x5_1 + 1)))) else none) else none) else (some (.out x5_1)))
def novationhelp_Gains.f (a0 : List api_Gain) (a1 : List api_Gain) : Option Bool := (if ¬((a0.length : Int) = (a1.length : Int)) then (some false) else ((novationhelp_Gains.l0 a0 a1 FUEL 0).bind fun f1 => f1.go fun s1 => (some true)))

def novationlaw15_known.f : Option Bool := ((mark_Trade.f (⟨1, 2, 0, 5, 90⟩ : api_Trade) 100).bind fun y2_1 => ((mark_Flows.f ([(⟨0, 0, 3⟩ : api_Pos), (⟨1, 0, (-3)⟩ : api_Pos)]) 0 10 12).bind fun y3_3 => ((mark_Gains.f ([] : List api_Gain) y2_1.1).bind fun y4_1 => (if y2_1.2 = 0 then (if (y2_1.1.length : Int) = 2 then (if 0 ≤ 0 ∧ 0 < (y2_1.1.length : Int) then ((wide_Of.f 50).bind fun y5_11 => (if ((rd y2_1.1 0).Kind == 5 && ((rd y2_1.1 0).N == 1 && ((wHi (rd y2_1.1 0).X) == (wHi y5_11) && (wLo (rd y2_1.1 0).X) == (wLo y5_11)))) = true then (if 0 ≤ 1 ∧ 1 < (y2_1.1.length : Int) then ((wide_Of.f (-50)).bind fun y5_20 => (if ((wHi (rd y2_1.1 1).X) == (wHi y5_20) && (wLo (rd y2_1.1 1).X) == (wLo y5_20)) = true then (if (wLo (rd y2_1.1 0).X) = 50 then (if y3_3.2 = 0 then (if (y3_3.1.length : Int) = 2 then (if 0 ≤ 0 ∧ 0 < (y3_3.1.length : Int) then ((wide_Of.f 6).bind fun y5_44 => (if ((rd y3_3.1 0).Kind == 2 && ((rd y3_3.1 0).N == 0 && ((wHi (rd y3_3.1 0).X) == (wHi y5_44) && (wLo (rd y3_3.1 0).X) == (wLo y5_44)))) = true then (if y4_1.2 = 0 then ((novationhelp_Gains.f y4_1.1 ([(⟨1, 50⟩ : api_Gain), (⟨2, (-50)⟩ : api_Gain)])).bind fun y5_57 => (if y5_57 = true then ((mark_Right.f (⟨1, 2, 0, 5, 90⟩ : api_Trade)).bind fun y5_61 => (if y5_61 = true then ((mark_GainsRight.f y4_1.1).bind fun y5_65 => (some y5_65)) else (some false))) else (some false))) else (some false)) else (some false))) else none) else (some false)) else (some false)) else (some false)) else (some false))) else none) else (some false))) else none) else (some false)) else (some false)))))

def novationref10_Stock.l0 (a0 : List api_Pos) : Nat → Int → Option (Flow Int Bool)
  | 0, _ => none
  | k0 + 1, x3_0 => (if x3_0 < (a0.length : Int) then (if 0 ≤ x3_0 ∧ x3_0 < (a0.length : Int) then (if (rd a0 x3_0).Acc < 0 then (some (.ret false)) else (if (rd a0 x3_0).Acc > 24 then (some (.ret false)) else (if (rd a0 x3_0).Inst < 0 then (some (.ret false)) else (if (rd a0 x3_0).Inst ≥ 6 then (some (.ret false)) else (if (rd a0 x3_0).Q = 0 then (some (.ret false)) else (if (rd a0 x3_0).Q = (-9223372036854775808) then (some (.ret false)) else (if x3_0 > 0 then (if 0 ≤ IntKind.i64.wrap (x3_0 - 1) ∧ IntKind.i64.wrap (x3_0 - 1) < (a0.length : Int) then (if (rd a0 x3_0).Acc < (rd a0 (IntKind.i64.wrap (x3_0 - 1))).Acc then (some (.ret false)) else (if (rd a0 x3_0).Acc = (rd a0 (IntKind.i64.wrap (x3_0 - 1))).Acc then (if (rd a0 x3_0).Inst ≤ (rd a0 (IntKind.i64.wrap (x3_0 - 1))).Inst then (some (.ret false)) else (novationref10_Stock.l0 a0 k0 (IntKind.i64.wrap (x3_0 + 1)))) else (novationref10_Stock.l0 a0 k0 (IntKind.i64.wrap (x3_0 + 1))))) else none) else (novationref10_Stock.l0 a0 k0 (IntKind.i64.wrap (x3_0 + 1)))))))))) else none) else (some (.out x3_0)))
def novationref10_Stock.f (a0 : List api_Pos) : Option Bool := ((novationref10_Stock.l0 a0 FUEL 0).bind fun f0 => f0.go fun s0 => (some true))

def novationref15_price.f (a0 : Int) : Option Bool := (if a0 ≥ 1 then (some (decide (a0 ≤ 1000000000000))) else (some false))

def novationref15_Row.f (a0 : Int) : Option (Int × Int) := (if a0 = 0 then (some (2, 0)) else (some (5, a0)))

def novationref15_Flows.l0 (a0 : List api_Pos) (a1 : Int) (y4_4 : Int) : Nat → List novationref10_Part → Int → Option ((List novationref10_Part) × Int)
  | 0, _, _ => none
  | k1 + 1, x10_1, x12_1 => (if x12_1 < (a0.length : Int) then (if 0 ≤ x12_1 ∧ x12_1 < (a0.length : Int) then (if ¬((rd a0 x12_1).Inst = a1) then (novationref15_Flows.l0 a0 a1 y4_4 k1 x10_1 (IntKind.i64.wrap (x12_1 + 1))) else ((novationref1_Sign.f y4_4).bind fun y8_9 => (if y8_9 = 0 then (novationref15_Flows.l0 a0 a1 y4_4 k1 x10_1 (IntKind.i64.wrap (x12_1 + 1))) else ((novationref15_Row.f (rd a0 x12_1).Acc).bind fun y9_5 => ((novationref1_Whole.f (rd a0 x12_1).Q).bind fun y10_8 => ((novationref1_Times.f y10_8 y4_4).bind fun y10_10 => (if x10_1.length + 1 ≤ 100000000000 then (novationref15_Flows.l0 a0 a1 y4_4 k1 (x10_1 ++ ([(⟨y9_5.1, y9_5.2, y10_10⟩ : novationref10_Part)])) (IntKind.i64.wrap (x12_1 + 1))) else none))))))) else none) else (some (x10_1, x12_1)))
def novationref15_Flows.f (a0 : List api_Pos) (a1 : Int) (a2 : Int) (a3 : Int) : Option ((List novationref10_Part) × Int) := ((novationref10_Stock.f a0).bind fun y2_1 => (if ¬(y2_1 = true) then (some (([] : List novationref10_Part), 1)) else ((novationref15_price.f a2).bind fun y2_5 => (if ¬(y2_5 = true) then (some (([] : List novationref10_Part), 1)) else ((novationref15_price.f a3).bind fun y2_10 => (if ¬(y2_10 = true) then (some (([] : List novationref10_Part), 1)) else ((novationref1_Whole.f a3).bind fun y4_1 => ((novationref1_Whole.f a2).bind fun y4_3 => ((novationref1_Less.f y4_1 y4_3).bind fun y4_4 => ((novationref15_Flows.l0 a0 a1 y4_4 FUEL ([] : List novationref10_Part) 0).bind fun s1 => (some (s1.1, 0))))))))))))

def novationhelp_Entries.l0 (a0 : List api_Entry) (a1 : List novationref10_Part) : Nat → Int → Option (Flow Int Bool)
  | 0, _ => none
  | k1 + 1, x5_1 => (if x5_1 < (a0.length : Int) then (if 0 ≤ x5_1 ∧ x5_1 < (a0.length : Int) then (if 0 ≤ x5_1 ∧ x5_1 < (a1.length : Int) then (if ¬((rd a0 x5_1).Kind = (rd a1 x5_1).Kind) then (some (.ret false)) else (if ¬((rd a0 x5_1).N = (rd a1 x5_1).N) then (some (.ret false)) else ((novationhelp_Wide.f (rd a0 x5_1).X (rd a1 x5_1).X).bind fun y6_35 => (if ¬(y6_35 = true) then (some (.ret false)) else (novationhelp_Entries.l0 a0 a1 k1 (IntKind.i64.wrap (x5_1 + 1))))))) else none) else none) else (some (.out x5_1)))
def novationhelp_Entries.f (a0 : List api_Entry) (a1 : List novationref10_Part) : Option Bool := (if ¬((a0.length : Int) = (a1.length : Int)) then (some false) else ((novationhelp_Entries.l0 a0 a1 FUEL 0).bind fun f1 => f1.go fun s1 => (some true)))

def novationlaw15_MarkFlows.f (a0 : List api_Pos) (a1 : Int) (a2 : Int) (a3 : Int) : Option Bool := ((novationlaw15_known.f).bind fun y1_0 => (if ¬(y1_0 = true) then (some false) else (if (a0.length : Int) > 160 then (some true) else ((mark_Flows.f a0 a1 a2 a3).bind fun y5_4 => ((novationref15_Flows.f a0 a1 a2 a3).bind fun y6_4 => (if y5_4.2 = y6_4.2 then ((novationhelp_Entries.f y5_4.1 y6_4.1).bind fun y7_6 => (some y7_6)) else (some false)))))))

def novationref10_Key.f (a0 : Int) (a1 : Int) : Option Bool := (if a0 = 1 then (if a0 = 1 then (some (a1 == 0)) else (if a0 = 5 then (if a1 ≥ 1 then (some (decide (a1 ≤ 24))) else (some false)) else (if a0 = 6 then (if a0 = 6 then (if a1 ≥ 1 then (some (decide (a1 ≤ 12))) else (some false)) else (some false)) else (if a0 = 7 then (if a1 ≥ 1 then (some (decide (a1 ≤ 12))) else (some false)) else (some false))))) else (if a0 = 2 then (if a0 = 2 then (some (a1 == 0)) else (if a0 = 5 then (if a1 ≥ 1 then (some (decide (a1 ≤ 24))) else (some false)) else (if a0 = 6 then (if a0 = 6 then (if a1 ≥ 1 then (some (decide (a1 ≤ 12))) else (some false)) else (some false)) else (if a0 = 7 then (if a1 ≥ 1 then (some (decide (a1 ≤ 12))) else (some false)) else (some false))))) else (if a0 = 3 then (if a0 = 3 then (some (a1 == 0)) else (if a0 = 5 then (if a1 ≥ 1 then (some (decide (a1 ≤ 24))) else (some false)) else (if a0 = 6 then (if a0 = 6 then (if a1 ≥ 1 then (some (decide (a1 ≤ 12))) else (some false)) else (some false)) else (if a0 = 7 then (if a1 ≥ 1 then (some (decide (a1 ≤ 12))) else (some false)) else (some false))))) else (if a0 = 4 then (some (a1 == 0)) else (if a0 = 5 then (if a1 ≥ 1 then (some (decide (a1 ≤ 24))) else (some false)) else (if a0 = 6 then (if a0 = 6 then (if a1 ≥ 1 then (some (decide (a1 ≤ 12))) else (some false)) else (some false)) else (if a0 = 7 then (if a1 ≥ 1 then (some (decide (a1 ≤ 12))) else (some false)) else (some false))))))))

def novationref10_Parts.l0 (a0 : List api_Entry) : Nat → List novationref10_Part → Int → Option ((List novationref10_Part) × Int)
  | 0, _, _ => none
  | k0 + 1, x3_0, x4_0 => (if x4_0 < (a0.length : Int) then (if 0 ≤ x4_0 ∧ x4_0 < (a0.length : Int) then ((novationref1_Wide.f (rd a0 x4_0).X).bind fun y5_16 => (if x3_0.length + 1 ≤ 100000000000 then (novationref10_Parts.l0 a0 k0 (x3_0 ++ ([({ (rd a0 x4_0) with X := y5_16 } : novationref10_Part)])) (IntKind.i64.wrap (x4_0 + 1))) else none)) else none) else (some (x3_0, x4_0)))
def novationref10_Parts.f (a0 : List api_Entry) : Option ((List novationref10_Part)) := ((novationref10_Parts.l0 a0 FUEL ([] : List novationref10_Part) 0).bind fun s0 => (some s0.1))

def novationlaw15_parts.l0 (a0 : List api_Entry) : Nat → Int → Option (Flow Int ((List novationref10_Part) × Bool))
  | 0, _ => none
  | k0 + 1, x4_0 => (if x4_0 < (a0.length : Int) then (if 0 ≤ x4_0 ∧ x4_0 < (a0.length : Int) then ((novationref10_Key.f (rd a0 x4_0).Kind (rd a0 x4_0).N).bind fun y4_10 => (if ¬(y4_10 = true) then (some (.ret (([] : List novationref10_Part), false))) else (novationlaw15_parts.l0 a0 k0 (IntKind.i64.wrap (x4_0 + 1))))) else none) else (some (.out x4_0)))
def novationlaw15_parts.f (a0 : List api_Entry) : Option ((List novationref10_Part) × Bool) := ((novationlaw15_parts.l0 a0 FUEL 0).bind fun f0 => f0.go fun s0 => ((novationref10_Parts.f a0).bind fun y6_1 => (some (y6_1, decide ((a0.length : Int) ≤ 400)))))

def novationref15_RightGains.l0 (a0 : List api_Gain) : Nat → Int → Option (Flow Int Bool)
  | 0, _ => none
  | k0 + 1, x3_0 => (if x3_0 < (a0.length : Int) then (if 0 ≤ x3_0 ∧ x3_0 < (a0.length : Int) then (if (rd a0 x3_0).Acc < 1 then (some (.ret false)) else (if (rd a0 x3_0).Acc > 24 then (some (.ret false)) else (if (rd a0 x3_0).X = 0 then (some (.ret false)) else (if x3_0 > 0 then (if 0 ≤ IntKind.i64.wrap (x3_0 - 1) ∧ IntKind.i64.wrap (x3_0 - 1) < (a0.length : Int) then (if (rd a0 x3_0).Acc ≤ (rd a0 (IntKind.i64.wrap (x3_0 - 1))).Acc then (some (.ret false)) else (novationref15_RightGains.l0 a0 k0 (IntKind.i64.wrap (x3_0 + 1)))) else none) else (novationref15_RightGains.l0 a0 k0 (IntKind.i64.wrap (x3_0 + 1))))))) else none) else (some (.out x3_0)))
def novationref15_RightGains.f (a0 : List api_Gain) : Option Bool := ((novationref15_RightGains.l0 a0 FUEL 0).bind fun f0 => f0.go fun s0 => (some true))

def novationref15_Gains.l1 (a0 : List api_Gain) (x7_1 : Int) : Nat → Int → Int → Option (Int × Int)
  | 0, _, _ => none
  | k3 + 1, x8_3, x9_3 => (if x9_3 < (a0.length : Int) then (if 0 ≤ x9_3 ∧ x9_3 < (a0.length : Int) then (if (rd a0 x9_3).Acc = x7_1 then ((novationref1_Whole.f (rd a0 x9_3).X).bind fun y12_5 => (novationref15_Gains.l1 a0 x7_1 k3 y12_5 (IntKind.i64.wrap (x9_3 + 1)))) else (novationref15_Gains.l1 a0 x7_1 k3 x8_3 (IntKind.i64.wrap (x9_3 + 1)))) else none) else (some (x8_3, x9_3)))
def novationref15_Gains.l2 (a1 : List novationref10_Part) (x7_1 : Int) : Nat → Int → Int → Option (Int × Int)
  | 0, _, _ => none
  | k6 + 1, x8_6, x10_6 => (if x10_6 < (a1.length : Int) then (if 0 ≤ x10_6 ∧ x10_6 < (a1.length : Int) then (if (rd a1 x10_6).Kind = 5 then (if (rd a1 x10_6).N = x7_1 then ((novationref1_Plus.f x8_6 (rd a1 x10_6).X).bind fun y17_6 => (novationref15_Gains.l2 a1 x7_1 k6 y17_6 (IntKind.i64.wrap (x10_6 + 1)))) else (novationref15_Gains.l2 a1 x7_1 k6 x8_6 (IntKind.i64.wrap (x10_6 + 1)))) else (novationref15_Gains.l2 a1 x7_1 k6 x8_6 (IntKind.i64.wrap (x10_6 + 1)))) else none) else (some (x8_6, x10_6)))
def novationref15_Gains.l0 (a0 : List api_Gain) (a1 : List novationref10_Part) : Nat → List api_Gain → Int → Option (Flow ((List api_Gain) × Int) ((List api_Gain) × Int))
  | 0, _, _ => none
  | k1 + 1, x6_1, x7_1 => (if x7_1 ≤ 24 then ((novationref15_Gains.l1 a0 x7_1 FUEL 0 0).bind fun s3 => ((novationref15_Gains.l2 a1 x7_1 FUEL s3.1 0).bind fun s6 => ((novationref1_Int.f s6.1).bind fun y18_1 => (if ¬(y18_1.2 = true) then (some (.ret (([] : List api_Gain), 2))) else (if ¬(y18_1.1 = 0) then (if x6_1.length + 1 ≤ 100000000000 then (novationref15_Gains.l0 a0 a1 k1 (x6_1 ++ ([(⟨x7_1, y18_1.1⟩ : api_Gain)])) (IntKind.i64.wrap (x7_1 + 1))) else none) else (novationref15_Gains.l0 a0 a1 k1 x6_1 (IntKind.i64.wrap (x7_1 + 1)))))))) else (some (.out (x6_1, x7_1))))
def novationref15_Gains.f (a0 : List api_Gain) (a1 : List novationref10_Part) : Option ((List api_Gain) × Int) := ((novationref15_RightGains.f a0).bind fun y2_1 => (if ¬(y2_1 = true) then (some (([] : List api_Gain), 1)) else ((novationref15_Gains.l0 a0 a1 FUEL ([] : List api_Gain) 1).bind fun f1 => f1.go fun s1 => (some (s1.1, 0)))))

def novationlaw15_MarkGains.f (a0 : List api_Gain) (a1 : List api_Entry) : Option Bool := ((novationlaw15_known.f).bind fun y1_0 => (if ¬(y1_0 = true) then (some false) else (if (a0.length : Int) > 40 then (some true) else (if (a1.length : Int) > 40 then (some true) else ((novationlaw15_parts.f a1).bind fun y5_1 => ((mark_Gains.f a0 a1).bind fun y6_2 => ((mark_GainsRight.f a0).bind fun y7_1 => ((novationref15_RightGains.f a0).bind fun y7_3 => (if ¬(y7_1 = y7_3) then (some false) else (if ¬(y5_1.2 = true) then (if y6_2.2 = 1 then (some ((y6_2.1.length : Int) == 0)) else (some false)) else ((novationref15_Gains.f a0 y5_1.1).bind fun y11_2 => (if y6_2.2 = y11_2.2 then ((novationhelp_Gains.f y6_2.1 y11_2.1).bind fun y12_6 => (some y12_6)) else (some false)))))))))))))

end Go.Ax
