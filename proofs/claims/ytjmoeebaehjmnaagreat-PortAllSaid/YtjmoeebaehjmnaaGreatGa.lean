/- The types of the program. -/
import Derived.Test.YtjmoeebaehjmnaaGreatGen
import Derived.Test.YtjmoeebaehjmnaaGreatSd4
set_option linter.unusedVariables false
set_option linter.unusedSimpArgs false
set_option linter.unusedVariables false
namespace Go.Ax
open Go
structure api_Inst where
  Bucket : Int
  Price : Int
  Rate : Int
  Slip : Int
deriving DecidableEq
instance : Inhabited api_Inst := ⟨⟨0, 0, 0, 0⟩⟩
def api_Inst.D (x : api_Inst) : List D := [.v (.int .i64 x.Bucket), .v (.int .i64 x.Price), .v (.int .i64 x.Rate), .v (.int .i64 x.Slip)]
attribute [go_sem] api_Inst.D
structure api_Config where
  Insts : List api_Inst
  Skin : Int
  Times : Int
  Port : Int
  Bid : Int
  LotSize : Int
  HedgeMin : Int
deriving DecidableEq
instance : Inhabited api_Config := ⟨⟨[], 0, 0, 0, 0, 0, 0⟩⟩
def api_Config.D (x : api_Config) : List D := [.l (rowsD api_Inst.D x.Insts), .v (.int .i64 x.Skin), .v (.int .i64 x.Times), .v (.int .i64 x.Port), .v (.int .i64 x.Bid), .v (.int .i64 x.LotSize), .v (.int .i64 x.HedgeMin)]
attribute [go_sem] api_Config.D
structure api_Member where
  Id : Int
  Status : Int
deriving DecidableEq
instance : Inhabited api_Member := ⟨⟨0, 0⟩⟩
def api_Member.D (x : api_Member) : List D := [.v (.int .i64 x.Id), .v (.int .i64 x.Status)]
attribute [go_sem] api_Member.D
structure api_Acc where
  Id : Int
  Member : Int
  Kind : Int
  Limit : Int
deriving DecidableEq
instance : Inhabited api_Acc := ⟨⟨0, 0, 0, 0⟩⟩
def api_Acc.D (x : api_Acc) : List D := [.v (.int .i64 x.Id), .v (.int .i64 x.Member), .v (.int .i64 x.Kind), .v (.int .i64 x.Limit)]
attribute [go_sem] api_Acc.D
structure api_Row where
  Kind : Int
  N : Int
  Sum : Int
deriving DecidableEq
instance : Inhabited api_Row := ⟨⟨0, 0, 0⟩⟩
def api_Row.D (x : api_Row) : List D := [.v (.int .i64 x.Kind), .v (.int .i64 x.N), .v (.int .i64 x.Sum)]
attribute [go_sem] api_Row.D
structure api_Pos where
  Acc : Int
  Inst : Int
  Q : Int
deriving DecidableEq
instance : Inhabited api_Pos := ⟨⟨0, 0, 0⟩⟩
def api_Pos.D (x : api_Pos) : List D := [.v (.int .i64 x.Acc), .v (.int .i64 x.Inst), .v (.int .i64 x.Q)]
attribute [go_sem] api_Pos.D
structure api_Order where
  Id : Int
  Acc : Int
  Inst : Int
  Side : Int
  Q : Int
  P : Int
deriving DecidableEq
instance : Inhabited api_Order := ⟨⟨0, 0, 0, 0, 0, 0⟩⟩
def api_Order.D (x : api_Order) : List D := [.v (.int .i64 x.Id), .v (.int .i64 x.Acc), .v (.int .i64 x.Inst), .v (.int .i64 x.Side), .v (.int .i64 x.Q), .v (.int .i64 x.P)]
attribute [go_sem] api_Order.D
structure api_Book where
  Members : List api_Member
  Accs : List api_Acc
  Rows : List api_Row
  Stock : List api_Pos
  Prices : List Int
  Orders : List api_Order
deriving DecidableEq
instance : Inhabited api_Book := ⟨⟨[], [], [], [], [], []⟩⟩
def api_Book.D (x : api_Book) : List D := [.l (rowsD api_Member.D x.Members), .l (rowsD api_Acc.D x.Accs), .l (rowsD api_Row.D x.Rows), .l (rowsD api_Pos.D x.Stock), .l (rowsD i64D x.Prices), .l (rowsD api_Order.D x.Orders)]
attribute [go_sem] api_Book.D
structure api_Leg where
  Inst : Int
  Q : Int
deriving DecidableEq
instance : Inhabited api_Leg := ⟨⟨0, 0⟩⟩
def api_Leg.D (x : api_Leg) : List D := [.v (.int .i64 x.Inst), .v (.int .i64 x.Q)]
attribute [go_sem] api_Leg.D

@[go_sem] theorem api_Inst_rd (l : List api_Inst) (i : Int) : (rowsD api_Inst.D l).getD i.toNat [.v (.int .i64 0), .v (.int .i64 0), .v (.int .i64 0), .v (.int .i64 0)] = api_Inst.D (rd l i) := getD_rowsD api_Inst.D l i
@[go_sem] theorem api_Inst_len (l : List api_Inst) : (∀ r ∈ rowsD api_Inst.D l, r.length = 4) = True := rowsD_len api_Inst.D (fun _ => rfl) l
@[go_sem] theorem api_Config_rd (l : List api_Config) (i : Int) : (rowsD api_Config.D l).getD i.toNat [.l [], .v (.int .i64 0), .v (.int .i64 0), .v (.int .i64 0), .v (.int .i64 0), .v (.int .i64 0), .v (.int .i64 0)] = api_Config.D (rd l i) := getD_rowsD api_Config.D l i
@[go_sem] theorem api_Config_len (l : List api_Config) : (∀ r ∈ rowsD api_Config.D l, r.length = 7) = True := rowsD_len api_Config.D (fun _ => rfl) l
@[go_sem] theorem api_Member_rd (l : List api_Member) (i : Int) : (rowsD api_Member.D l).getD i.toNat [.v (.int .i64 0), .v (.int .i64 0)] = api_Member.D (rd l i) := getD_rowsD api_Member.D l i
@[go_sem] theorem api_Member_len (l : List api_Member) : (∀ r ∈ rowsD api_Member.D l, r.length = 2) = True := rowsD_len api_Member.D (fun _ => rfl) l
@[go_sem] theorem api_Acc_rd (l : List api_Acc) (i : Int) : (rowsD api_Acc.D l).getD i.toNat [.v (.int .i64 0), .v (.int .i64 0), .v (.int .i64 0), .v (.int .i64 0)] = api_Acc.D (rd l i) := getD_rowsD api_Acc.D l i
@[go_sem] theorem api_Acc_len (l : List api_Acc) : (∀ r ∈ rowsD api_Acc.D l, r.length = 4) = True := rowsD_len api_Acc.D (fun _ => rfl) l
@[go_sem] theorem api_Row_rd (l : List api_Row) (i : Int) : (rowsD api_Row.D l).getD i.toNat [.v (.int .i64 0), .v (.int .i64 0), .v (.int .i64 0)] = api_Row.D (rd l i) := getD_rowsD api_Row.D l i
@[go_sem] theorem api_Row_len (l : List api_Row) : (∀ r ∈ rowsD api_Row.D l, r.length = 3) = True := rowsD_len api_Row.D (fun _ => rfl) l
@[go_sem] theorem api_Pos_rd (l : List api_Pos) (i : Int) : (rowsD api_Pos.D l).getD i.toNat [.v (.int .i64 0), .v (.int .i64 0), .v (.int .i64 0)] = api_Pos.D (rd l i) := getD_rowsD api_Pos.D l i
@[go_sem] theorem api_Pos_len (l : List api_Pos) : (∀ r ∈ rowsD api_Pos.D l, r.length = 3) = True := rowsD_len api_Pos.D (fun _ => rfl) l
@[go_sem] theorem api_Order_rd (l : List api_Order) (i : Int) : (rowsD api_Order.D l).getD i.toNat [.v (.int .i64 0), .v (.int .i64 0), .v (.int .i64 0), .v (.int .i64 0), .v (.int .i64 0), .v (.int .i64 0)] = api_Order.D (rd l i) := getD_rowsD api_Order.D l i
@[go_sem] theorem api_Order_len (l : List api_Order) : (∀ r ∈ rowsD api_Order.D l, r.length = 6) = True := rowsD_len api_Order.D (fun _ => rfl) l
@[go_sem] theorem api_Book_rd (l : List api_Book) (i : Int) : (rowsD api_Book.D l).getD i.toNat [.l [], .l [], .l [], .l [], .l [], .l []] = api_Book.D (rd l i) := getD_rowsD api_Book.D l i
@[go_sem] theorem api_Book_len (l : List api_Book) : (∀ r ∈ rowsD api_Book.D l, r.length = 6) = True := rowsD_len api_Book.D (fun _ => rfl) l
@[go_sem] theorem api_Leg_rd (l : List api_Leg) (i : Int) : (rowsD api_Leg.D l).getD i.toNat [.v (.int .i64 0), .v (.int .i64 0)] = api_Leg.D (rd l i) := getD_rowsD api_Leg.D l i
@[go_sem] theorem api_Leg_len (l : List api_Leg) : (∀ r ∈ rowsD api_Leg.D l, r.length = 2) = True := rowsD_len api_Leg.D (fun _ => rfl) l
@[go_sem] theorem i64D_rd (l : List Int) (i : Int) : (rowsD i64D l).getD i.toNat [.v (.int .i64 0)] = i64D (rd l i) := getD_rowsD i64D l i
@[go_sem] theorem i64D_len (l : List Int) : (∀ r ∈ rowsD i64D l, r.length = 1) = True := rowsD_len i64D (fun _ => rfl) l
@[go_sem] theorem boolD_rd (l : List Bool) (i : Int) : (rowsD boolD l).getD i.toNat [.v (.bool false)] = boolD (rd l i) := getD_rowsD boolD l i
@[go_sem] theorem boolD_len (l : List Bool) : (∀ r ∈ rowsD boolD l, r.length = 1) = True := rowsD_len boolD (fun _ => rfl) l
@[go_sem] theorem wD_rd (l : List Int) (i : Int) : (rowsD wD l).getD i.toNat [.v (.int .i64 0), .v (.int .u64 0)] = wD (rd l i) := getD_rowsD wD l i
@[go_sem] theorem wD_len (l : List Int) : (∀ r ∈ rowsD wD l, r.length = 2) = True := rowsD_len wD (fun _ => rfl) l
@[go_sem] theorem bigDs_rd (l : List Int) (i : Int) : (rowsD bigDs l).getD i.toNat [.v (.bool false), .l []] = bigDs (rd l i) := by
  have e : bigDs (default : Int) = [.v (.bool false), .l []] := by show bigDs 0 = _; simp [bigDs, digs_zero, rowsU]
  rw [← e]; exact getD_rowsD bigDs l i
@[go_sem] theorem bigDs_len (l : List Int) : (∀ r ∈ rowsD bigDs l, r.length = 2) = True := rowsD_len bigDs (fun _ => rfl) l
attribute [go_sem] i64D boolD wD
@[simp] theorem wHi_z : wHi 0 = 0 := by decide
@[simp] theorem wLo_z : wLo 0 = 0 := by decide
@[go_sem] theorem digs_z : digs (Int.natAbs 0) = [] := digs_zero
@[go_sem] theorem rowsU_z : rowsU [] = [] := congrArg id rfl
def api_Inst.ok (x : api_Inst) : Prop := I64 x.Bucket ∧ I64 x.Price ∧ I64 x.Rate ∧ I64 x.Slip
def api_Config.ok (x : api_Config) : Prop := ((∀ y ∈ x.Insts, api_Inst.ok y) ∧ x.Insts.length < 281474976710656) ∧ I64 x.Skin ∧ I64 x.Times ∧ I64 x.Port ∧ I64 x.Bid ∧ I64 x.LotSize ∧ I64 x.HedgeMin
def api_Member.ok (x : api_Member) : Prop := I64 x.Id ∧ I64 x.Status
def api_Acc.ok (x : api_Acc) : Prop := I64 x.Id ∧ I64 x.Member ∧ I64 x.Kind ∧ I64 x.Limit
def api_Row.ok (x : api_Row) : Prop := I64 x.Kind ∧ I64 x.N ∧ I64 x.Sum
def api_Pos.ok (x : api_Pos) : Prop := I64 x.Acc ∧ I64 x.Inst ∧ I64 x.Q
def api_Order.ok (x : api_Order) : Prop := I64 x.Id ∧ I64 x.Acc ∧ I64 x.Inst ∧ I64 x.Side ∧ I64 x.Q ∧ I64 x.P
def api_Book.ok (x : api_Book) : Prop := ((∀ y ∈ x.Members, api_Member.ok y) ∧ x.Members.length < 281474976710656) ∧ ((∀ y ∈ x.Accs, api_Acc.ok y) ∧ x.Accs.length < 281474976710656) ∧ ((∀ y ∈ x.Rows, api_Row.ok y) ∧ x.Rows.length < 281474976710656) ∧ ((∀ y ∈ x.Stock, api_Pos.ok y) ∧ x.Stock.length < 281474976710656) ∧ ((∀ y ∈ x.Prices, I64 y) ∧ x.Prices.length < 281474976710656) ∧ ((∀ y ∈ x.Orders, api_Order.ok y) ∧ x.Orders.length < 281474976710656)
def api_Leg.ok (x : api_Leg) : Prop := I64 x.Inst ∧ I64 x.Q
end Go.Ax

/- The functions on numbers, amounts and wide numbers, as printed functions lean on them. -/
set_option linter.unusedVariables false
namespace Go.Ax
open Go
/-- Small enough for the proofs about big numbers. -/
abbrev BigOk (z : Int) : Prop := z.natAbs < BB ^ 12
instance (x : Int) : Decidable (I64 x) := by unfold I64; infer_instance
def novationref1_Plus.f (a b : Int) : Option Int := if BigOk a ∧ BigOk b then some (a + b) else none
def novationref1_Less.f (a b : Int) : Option Int := if BigOk a ∧ BigOk b then some (a - b) else none
def novationref1_Times.f (a b : Int) : Option Int := if BigOk a ∧ BigOk b then some (a * b) else none
def novationref1_Sized.f (a : Int) : Option Int := if BigOk a then some (a.natAbs : Int) else none
def novationref1_Turned.f (a : Int) : Option Int := if BigOk a then some (-a) else none
def novationref1_Sign.f (a : Int) : Option Int := if BigOk a then some (cmpI a 0) else none
def novationref1_Cmp.f (a b : Int) : Option Int := if BigOk a ∧ BigOk b then some (cmpI a b) else none
def novationref1_Int.f (a : Int) : Option (Int × Bool) := if BigOk a then some (fitV a, fit a) else none
def novationref1_Whole.f (a : Int) : Option Int := if I64 a then some a else none
def novationref1_Wide.f (a : Int) : Option Int := if Wid a then some a else none
def novationhelp_Wide.f (w z : Int) : Option Bool := if Wid w ∧ BigOk z then some (decide (w = z)) else none
def amount_Size.f (a : Int) : Option Int := if I64 a then some (a.natAbs : Int) else none
def wide_Of.f (a : Int) : Option Int := if I64 a then some a else none
def wide_Mul.f (a b : Int) : Option Int := if I64 a ∧ I64 b then some (a * b) else none
def wide_Add.f (a b : Int) : Option (Int × Bool) := if Wid a ∧ Wid b then some (wfitV (a + b), wfit (a + b)) else none
def wide_Sub.f (a b : Int) : Option (Int × Bool) := if Wid a ∧ Wid b then some (wfitV (a - b), wfit (a - b)) else none
def wide_Neg.f (a : Int) : Option (Int × Bool) := if Wid a then some (wfitV (-a), wfit (-a)) else none
def wide_Abs.f (a : Int) : Option (Int × Bool) := if Wid a then some (wfitV (a.natAbs : Int), wfit (a.natAbs : Int)) else none
def wide_Times.f (a k : Int) : Option (Int × Bool) := if Wid a ∧ I64 k then some (wfitV (a * k), wfit (a * k)) else none
def wide_Cmp.f (a b : Int) : Option Int := some (cmpI a b)
def wide_Sign.f (a : Int) : Option Int := some (cmpI a 0)
def wide_Int.f (a : Int) : Option (Int × Bool) := if Wid a then some (fitV a, fit a) else none
def wide_Sum.f (l : List Int) : Option (Int × Bool) := if l.all wfit = true ∧ l.length ≤ 100000000000 then some (wfitV l.sum, wfit l.sum) else none
end Go.Ax

/- The functions of the program as Lean functions, printed by gen.py. -/
set_option linter.unusedVariables false
set_option maxRecDepth 100000
namespace Go.Ax
open Go
def novationlaw20_small.f : Option (api_Config × api_Book) := (some ((⟨[(⟨0, 100, 2, 0⟩ : api_Inst)], 0, 0, 0, 0, 1, 0⟩ : api_Config), (⟨[(⟨1, 3⟩ : api_Member), (⟨2, 1⟩ : api_Member), (⟨3, 2⟩ : api_Member)], [(⟨1, 1, 1, 0⟩ : api_Acc), (⟨2, 1, 2, 0⟩ : api_Acc), (⟨3, 1, 2, 0⟩ : api_Acc)], [(⟨1, 0, (-10)⟩ : api_Row), (⟨5, 2, 10⟩ : api_Row)], [(⟨2, 0, 5⟩ : api_Pos), (⟨3, 0, (-5)⟩ : api_Pos)], [100], ([] : List api_Order)⟩ : api_Book)))

def plan_in.f (a0 : Int) (a1 : Int) (a2 : Int) : Option Bool := (if a0 ≥ a1 then (some (decide (a0 ≤ a2))) else (some false))

def plan_Right.l0 (a0 : api_Config) : Nat → Int → Option (Flow Int Bool)
  | 0, _ => none
  | k1 + 1, x13_1 => (if x13_1 < (a0.Insts.length : Int) then (if 0 ≤ x13_1 ∧ x13_1 < (a0.Insts.length : Int) then ((plan_in.f (rd a0.Insts x13_1).Bucket 0 3).bind fun y6_2 => (if ¬(y6_2 = true) then (some (.ret false)) else ((plan_in.f (rd a0.Insts x13_1).Price 1 1000000000000).bind fun y6_7 => (if ¬(y6_7 = true) then (some (.ret false)) else ((plan_in.f (rd a0.Insts x13_1).Rate 0 1000000000).bind fun y6_13 => (if ¬(y6_13 = true) then (some (.ret false)) else ((plan_in.f (rd a0.Insts x13_1).Slip 0 1000000000).bind fun y6_19 => (if ¬(y6_19 = true) then (some (.ret false)) else (plan_Right.l0 a0 k1 (IntKind.i64.wrap (x13_1 + 1))))))))))) else none) else (some (.out x13_1)))
def plan_Right.f (a0 : api_Config) : Option Bool := ((plan_in.f (a0.Insts.length : Int) 1 6).bind fun y1_3 => (if ¬(y1_3 = true) then (some false) else ((plan_Right.l0 a0 FUEL 0).bind fun f1 => f1.go fun s1 => (if a0.Skin ≥ 0 then ((plan_in.f a0.Times 0 4).bind fun y9_6 => (if y9_6 = true then ((plan_in.f a0.Port 0 1000000).bind fun y9_11 => (if y9_11 = true then ((plan_in.f a0.Bid 0 1000000).bind fun y9_16 => (if y9_16 = true then ((plan_in.f a0.LotSize 1 4611686018427387904).bind fun y9_21 => (if y9_21 = true then (some (decide (a0.HedgeMin ≥ 0))) else (some false))) else (some false))) else (some false))) else (some false))) else (some false)))))

def roll_Members.l0 (a0 : List api_Member) : Nat → Int → Option (Flow Int Bool)
  | 0, _ => none
  | k0 + 1, x7_0 => (if x7_0 < (a0.length : Int) then (if 0 ≤ x7_0 ∧ x7_0 < (a0.length : Int) then (if (rd a0 x7_0).Id < 1 then (some (.ret false)) else (if (rd a0 x7_0).Id > 12 then (some (.ret false)) else (if (rd a0 x7_0).Status < 1 then (some (.ret false)) else (if (rd a0 x7_0).Status > 4 then (some (.ret false)) else (if x7_0 > 0 then (if 0 ≤ IntKind.i64.wrap (x7_0 - 1) ∧ IntKind.i64.wrap (x7_0 - 1) < (a0.length : Int) then (if (rd a0 (IntKind.i64.wrap (x7_0 - 1))).Id ≥ (rd a0 x7_0).Id then (some (.ret false)) else (roll_Members.l0 a0 k0 (IntKind.i64.wrap (x7_0 + 1)))) else none) else (roll_Members.l0 a0 k0 (IntKind.i64.wrap (x7_0 + 1)))))))) else none) else (some (.out x7_0)))
def roll_Members.f (a0 : List api_Member) : Option Bool := ((roll_Members.l0 a0 FUEL 0).bind fun f0 => f0.go fun s0 => (some true))

def roll_Accs.l0 (a0 : List api_Acc) : Nat → List Bool → Int → Option (Flow ((List Bool) × Int) Bool)
  | 0, _, _ => none
  | k0 + 1, x3_0, x8_0 => (if x8_0 < (a0.length : Int) then (if 0 ≤ x8_0 ∧ x8_0 < (a0.length : Int) then (if (rd a0 x8_0).Id < 1 then (some (.ret false)) else (if (rd a0 x8_0).Id > 24 then (some (.ret false)) else (if (rd a0 x8_0).Member < 1 then (some (.ret false)) else (if (rd a0 x8_0).Member > 12 then (some (.ret false)) else (if ¬((rd a0 x8_0).Kind = 1) then (if ¬((rd a0 x8_0).Kind = 2) then (some (.ret false)) else (if (rd a0 x8_0).Limit < 0 then (some (.ret false)) else (if (rd a0 x8_0).Limit > 1000000000000 then (some (.ret false)) else (if x8_0 > 0 then (if 0 ≤ IntKind.i64.wrap (x8_0 - 1) ∧ IntKind.i64.wrap (x8_0 - 1) < (a0.length : Int) then (if (rd a0 (IntKind.i64.wrap (x8_0 - 1))).Id ≥ (rd a0 x8_0).Id then (some (.ret false)) else (if (rd a0 x8_0).Kind = 1 then (if 0 ≤ (rd a0 x8_0).Member ∧ (rd a0 x8_0).Member < 13 then (if (rd a0 x8_0).Member < (x3_0.length : Int) then (if (rd x3_0 (rd a0 x8_0).Member) = true then (some (.ret false)) else (roll_Accs.l0 a0 k0 (x3_0.set (rd a0 x8_0).Member.toNat true) (IntKind.i64.wrap (x8_0 + 1)))) else none) else none) else (roll_Accs.l0 a0 k0 x3_0 (IntKind.i64.wrap (x8_0 + 1))))) else none) else (if (rd a0 x8_0).Kind = 1 then (if 0 ≤ (rd a0 x8_0).Member ∧ (rd a0 x8_0).Member < 13 then (if (rd a0 x8_0).Member < (x3_0.length : Int) then (if (rd x3_0 (rd a0 x8_0).Member) = true then (some (.ret false)) else (roll_Accs.l0 a0 k0 (x3_0.set (rd a0 x8_0).Member.toNat true) (IntKind.i64.wrap (x8_0 + 1)))) else none) else none) else (roll_Accs.l0 a0 k0 x3_0 (IntKind.i64.wrap (x8_0 + 1)))))))) else (if (rd a0 x8_0).Limit < 0 then (some (.ret false)) else (if (rd a0 x8_0).Limit > 1000000000000 then (some (.ret false)) else (if x8_0 > 0 then (if 0 ≤ IntKind.i64.wrap (x8_0 - 1) ∧ IntKind.i64.wrap (x8_0 - 1) < (a0.length : Int) then (if (rd a0 (IntKind.i64.wrap (x8_0 - 1))).Id ≥ (rd a0 x8_0).Id then (some (.ret false)) else (if (rd a0 x8_0).Kind = 1 then (if 0 ≤ (rd a0 x8_0).Member ∧ (rd a0 x8_0).Member < 13 then (if (rd a0 x8_0).Member < (x3_0.length : Int) then (if (rd x3_0 (rd a0 x8_0).Member) = true then (some (.ret false)) else (roll_Accs.l0 a0 k0 (x3_0.set (rd a0 x8_0).Member.toNat true) (IntKind.i64.wrap (x8_0 + 1)))) else none) else none) else (roll_Accs.l0 a0 k0 x3_0 (IntKind.i64.wrap (x8_0 + 1))))) else none) else (if (rd a0 x8_0).Kind = 1 then (if 0 ≤ (rd a0 x8_0).Member ∧ (rd a0 x8_0).Member < 13 then (if (rd a0 x8_0).Member < (x3_0.length : Int) then (if (rd x3_0 (rd a0 x8_0).Member) = true then (some (.ret false)) else (roll_Accs.l0 a0 k0 (x3_0.set (rd a0 x8_0).Member.toNat true) (IntKind.i64.wrap (x8_0 + 1)))) else none) else none) else (roll_Accs.l0 a0 k0 x3_0 (IntKind.i64.wrap (x8_0 + 1)))))))))))) else none) else (some (.out (x3_0, x8_0))))
def roll_Accs.f (a0 : List api_Acc) : Option Bool := ((roll_Accs.l0 a0 FUEL ([false, false, false, false, false, false, false, false, false, false, false, false, false] : List Bool) 0).bind fun f0 => f0.go fun s0 => (some true))

def roll_Status.l0 (a0 : List api_Member) (a1 : Int) : Nat → Int → Option (Flow Int Int)
  | 0, _ => none
  | k1 + 1, x12_1 => (if x12_1 < (a0.length : Int) then (if 0 ≤ x12_1 ∧ x12_1 < (a0.length : Int) then (if (rd a0 x12_1).Id = a1 then (some (.ret (rd a0 x12_1).Status)) else (roll_Status.l0 a0 a1 k1 (IntKind.i64.wrap (x12_1 + 1)))) else none) else (some (.out x12_1)))
def roll_Status.f (a0 : List api_Member) (a1 : Int) : Option Int := ((roll_Members.f a0).bind fun y1_1 => (if ¬(y1_1 = true) then (some 0) else ((roll_Status.l0 a0 a1 FUEL 0).bind fun f1 => f1.go fun s1 => (some 0))))

def roll_Right.l0 (a0 : List api_Member) (a1 : List api_Acc) : Nat → Int → Option (Flow Int Bool)
  | 0, _ => none
  | k1 + 1, x17_1 => (if x17_1 < (a1.length : Int) then (if 0 ≤ x17_1 ∧ x17_1 < (a1.length : Int) then ((roll_Status.f a0 (rd a1 x17_1).Member).bind fun y6_3 => (if y6_3 = 0 then (some (.ret false)) else (roll_Right.l0 a0 a1 k1 (IntKind.i64.wrap (x17_1 + 1))))) else none) else (some (.out x17_1)))
def roll_Right.f (a0 : List api_Member) (a1 : List api_Acc) : Option Bool := ((roll_Members.f a0).bind fun y1_1 => (if ¬(y1_1 = true) then (some false) else ((roll_Accs.f a1).bind fun y1_5 => (if ¬(y1_5 = true) then (some false) else ((roll_Right.l0 a0 a1 FUEL 0).bind fun f1 => f1.go fun s1 => (some true))))))

def ledger_Key.f (a0 : Int) (a1 : Int) : Option Bool := (if a0 = 1 then (if a0 = 1 then (some (a1 == 0)) else (if a0 = 5 then (if a1 ≥ 1 then (some (decide (a1 ≤ 24))) else (some false)) else (if a0 = 6 then (if a0 = 6 then (if a1 ≥ 1 then (some (decide (a1 ≤ 12))) else (some false)) else (some false)) else (if a0 = 7 then (if a1 ≥ 1 then (some (decide (a1 ≤ 12))) else (some false)) else (some false))))) else (if a0 = 2 then (if a0 = 2 then (some (a1 == 0)) else (if a0 = 5 then (if a1 ≥ 1 then (some (decide (a1 ≤ 24))) else (some false)) else (if a0 = 6 then (if a0 = 6 then (if a1 ≥ 1 then (some (decide (a1 ≤ 12))) else (some false)) else (some false)) else (if a0 = 7 then (if a1 ≥ 1 then (some (decide (a1 ≤ 12))) else (some false)) else (some false))))) else (if a0 = 3 then (if a0 = 3 then (some (a1 == 0)) else (if a0 = 5 then (if a1 ≥ 1 then (some (decide (a1 ≤ 24))) else (some false)) else (if a0 = 6 then (if a0 = 6 then (if a1 ≥ 1 then (some (decide (a1 ≤ 12))) else (some false)) else (some false)) else (if a0 = 7 then (if a1 ≥ 1 then (some (decide (a1 ≤ 12))) else (some false)) else (some false))))) else (if a0 = 4 then (some (a1 == 0)) else (if a0 = 5 then (if a1 ≥ 1 then (some (decide (a1 ≤ 24))) else (some false)) else (if a0 = 6 then (if a0 = 6 then (if a1 ≥ 1 then (some (decide (a1 ≤ 12))) else (some false)) else (some false)) else (if a0 = 7 then (if a1 ≥ 1 then (some (decide (a1 ≤ 12))) else (some false)) else (some false))))))))

def ledger_order.f (a0 : Int) (a1 : Int) (a2 : api_Row) : Option Int := (if ¬(a0 = a2.Kind) then (some (IntKind.i64.wrap (a0 - a2.Kind))) else (some (IntKind.i64.wrap (a1 - a2.N))))

def ledger_Right.l0 (a0 : List api_Row) : Nat → Int → Option (Flow Int Bool)
  | 0, _ => none
  | k0 + 1, x7_0 => (if x7_0 < (a0.length : Int) then (if 0 ≤ x7_0 ∧ x7_0 < (a0.length : Int) then ((ledger_Key.f (rd a0 x7_0).Kind (rd a0 x7_0).N).bind fun y4_4 => (if ¬(y4_4 = true) then (some (.ret false)) else (if (rd a0 x7_0).Sum = 0 then (some (.ret false)) else (if x7_0 > 0 then (if 0 ≤ IntKind.i64.wrap (x7_0 - 1) ∧ IntKind.i64.wrap (x7_0 - 1) < (a0.length : Int) then ((ledger_order.f (rd a0 x7_0).Kind (rd a0 x7_0).N (rd a0 (IntKind.i64.wrap (x7_0 - 1)))).bind fun y4_24 => (if y4_24 ≤ 0 then (some (.ret false)) else (ledger_Right.l0 a0 k0 (IntKind.i64.wrap (x7_0 + 1))))) else none) else (ledger_Right.l0 a0 k0 (IntKind.i64.wrap (x7_0 + 1))))))) else none) else (some (.out x7_0)))
def ledger_Right.f (a0 : List api_Row) : Option Bool := ((ledger_Right.l0 a0 FUEL 0).bind fun f0 => f0.go fun s0 => (some true))

def ledger_Total.l0 (a0 : List api_Row) : Nat → List Int → Int → Option ((List Int) × Int)
  | 0, _, _ => none
  | k1 + 1, x3_1, x14_1 => (if x14_1 < (a0.length : Int) then (if 0 ≤ x14_1 ∧ x14_1 < (a0.length : Int) then ((wide_Of.f (rd a0 x14_1).Sum).bind fun y7_3 => (if x3_1.length + 1 ≤ 100000000000 then (ledger_Total.l0 a0 k1 (x3_1 ++ ([y7_3])) (IntKind.i64.wrap (x14_1 + 1))) else none)) else none) else (some (x3_1, x14_1)))
def ledger_Total.f (a0 : List api_Row) : Option Int := ((ledger_Right.f a0).bind fun y1_1 => (if ¬(y1_1 = true) then (some 0) else ((ledger_Total.l0 a0 FUEL ([] : List Int) 0).bind fun s1 => ((wide_Sum.f s1.1).bind fun y9_1 => (some y9_1.1)))))

def stock_key.f (a0 : Int) (a1 : Int) : Option Bool := (if a0 ≥ 0 then (if a0 ≤ 24 then (if a1 ≥ 0 then (some (decide (a1 < 6))) else (some false)) else (some false)) else (some false))

def stock_Quantity.f (a0 : Int) : Option Bool := (some (a0 != (-9223372036854775808)))

def stock_order.f (a0 : Int) (a1 : Int) (a2 : api_Pos) : Option Int := (if ¬(a0 = a2.Acc) then (some (IntKind.i64.wrap (a0 - a2.Acc))) else (some (IntKind.i64.wrap (a1 - a2.Inst))))

def stock_Right.l0 (a0 : List api_Pos) : Nat → Int → Option (Flow Int Bool)
  | 0, _ => none
  | k0 + 1, x7_0 => (if x7_0 < (a0.length : Int) then (if 0 ≤ x7_0 ∧ x7_0 < (a0.length : Int) then ((stock_key.f (rd a0 x7_0).Acc (rd a0 x7_0).Inst).bind fun y4_4 => (if ¬(y4_4 = true) then (some (.ret false)) else (if (rd a0 x7_0).Q = 0 then (some (.ret false)) else ((stock_Quantity.f (rd a0 x7_0).Q).bind fun y4_14 => (if ¬(y4_14 = true) then (some (.ret false)) else (if x7_0 > 0 then (if 0 ≤ IntKind.i64.wrap (x7_0 - 1) ∧ IntKind.i64.wrap (x7_0 - 1) < (a0.length : Int) then ((stock_order.f (rd a0 x7_0).Acc (rd a0 x7_0).Inst (rd a0 (IntKind.i64.wrap (x7_0 - 1)))).bind fun y4_30 => (if y4_30 ≤ 0 then (some (.ret false)) else (stock_Right.l0 a0 k0 (IntKind.i64.wrap (x7_0 + 1))))) else none) else (stock_Right.l0 a0 k0 (IntKind.i64.wrap (x7_0 + 1))))))))) else none) else (some (.out x7_0)))
def stock_Right.f (a0 : List api_Pos) : Option Bool := ((stock_Right.l0 a0 FUEL 0).bind fun f0 => f0.go fun s0 => (some true))

def stock_Sum.l0 (a0 : List api_Pos) (a1 : Int) : Nat → List Int → Int → Option ((List Int) × Int)
  | 0, _, _ => none
  | k1 + 1, x5_1, x16_1 => (if x16_1 < (a0.length : Int) then (if 0 ≤ x16_1 ∧ x16_1 < (a0.length : Int) then (if (rd a0 x16_1).Inst = a1 then ((wide_Of.f (rd a0 x16_1).Q).bind fun y8_3 => (if x5_1.length + 1 ≤ 100000000000 then (stock_Sum.l0 a0 a1 k1 (x5_1 ++ ([y8_3])) (IntKind.i64.wrap (x16_1 + 1))) else none)) else (stock_Sum.l0 a0 a1 k1 x5_1 (IntKind.i64.wrap (x16_1 + 1)))) else none) else (some (x5_1, x16_1)))
def stock_Sum.f (a0 : List api_Pos) (a1 : Int) : Option Int := ((stock_Right.f a0).bind fun y1_1 => (if ¬(y1_1 = true) then (some 0) else ((stock_Sum.l0 a0 a1 FUEL ([] : List Int) 0).bind fun s1 => ((wide_Sum.f s1.1).bind fun y10_1 => (some y10_1.1)))))

def stock_Flat.l0 (a0 : List api_Pos) : Nat → Int → Option (Flow Int Bool)
  | 0, _ => none
  | k0 + 1, x4_0 => (if x4_0 < 6 then ((stock_Sum.f a0 x4_0).bind fun y4_2 => ((wide_Sign.f y4_2).bind fun y4_3 => (if ¬(y4_3 = 0) then (some (.ret false)) else (stock_Flat.l0 a0 k0 (IntKind.i64.wrap (x4_0 + 1)))))) else (some (.out x4_0)))
def stock_Flat.f (a0 : List api_Pos) : Option Bool := ((stock_Flat.l0 a0 FUEL 0).bind fun f0 => f0.go fun s0 => ((stock_Right.f a0).bind fun y7_1 => (some y7_1)))

def queue_Order.f (a0 : api_Order) : Option Bool := (if a0.Id ≥ 1 then (if a0.Id ≤ 1099511627776 then (if a0.Acc ≥ 1 then (if a0.Acc ≤ 24 then (if a0.Inst ≥ 0 then (if a0.Inst < 6 then (if a0.Side = 1 then (if a0.Q ≥ 1 then (if a0.Q ≤ 1000000000 then (if a0.P ≥ 1 then (some (decide (a0.P ≤ 1000000000000))) else (some false)) else (some false)) else (some false)) else (if a0.Side = 2 then (if a0.Q ≥ 1 then (if a0.Q ≤ 1000000000 then (if a0.P ≥ 1 then (some (decide (a0.P ≤ 1000000000000))) else (some false)) else (some false)) else (some false)) else (some false))) else (some false)) else (some false)) else (some false)) else (some false)) else (some false)) else (some false))

def queue_Right.l0 (a0 : List api_Order) : Nat → Int → Option (Flow Int Bool)
  | 0, _ => none
  | k0 + 1, x7_0 => (if x7_0 < (a0.length : Int) then (if 0 ≤ x7_0 ∧ x7_0 < (a0.length : Int) then ((queue_Order.f (rd a0 x7_0)).bind fun y4_1 => (if ¬(y4_1 = true) then (some (.ret false)) else (if x7_0 > 0 then (if 0 ≤ IntKind.i64.wrap (x7_0 - 1) ∧ IntKind.i64.wrap (x7_0 - 1) < (a0.length : Int) then (if (rd a0 (IntKind.i64.wrap (x7_0 - 1))).Id ≥ (rd a0 x7_0).Id then (some (.ret false)) else (queue_Right.l0 a0 k0 (IntKind.i64.wrap (x7_0 + 1)))) else none) else (queue_Right.l0 a0 k0 (IntKind.i64.wrap (x7_0 + 1)))))) else none) else (some (.out x7_0)))
def queue_Right.f (a0 : List api_Order) : Option Bool := ((queue_Right.l0 a0 FUEL 0).bind fun f0 => f0.go fun s0 => (some (decide ((a0.length : Int) ≤ 32))))

def roll_Find.l0 (a0 : List api_Acc) (a1 : Int) : Nat → Int → Option (Flow Int (api_Acc × Bool))
  | 0, _ => none
  | k1 + 1, x14_1 => (if x14_1 < (a0.length : Int) then (if 0 ≤ x14_1 ∧ x14_1 < (a0.length : Int) then (if (rd a0 x14_1).Id = a1 then (some (.ret (rd a0 x14_1, true))) else (roll_Find.l0 a0 a1 k1 (IntKind.i64.wrap (x14_1 + 1)))) else none) else (some (.out x14_1)))
def roll_Find.f (a0 : List api_Acc) (a1 : Int) : Option (api_Acc × Bool) := ((roll_Accs.f a0).bind fun y1_1 => (if ¬(y1_1 = true) then (some ((⟨0, 0, 0, 0⟩ : api_Acc), false)) else ((roll_Find.l0 a0 a1 FUEL 0).bind fun f1 => f1.go fun s1 => (some ((⟨0, 0, 0, 0⟩ : api_Acc), false)))))

def book_Acc.f (a0 : api_Book) (a1 : Int) : Option Bool := ((roll_Find.f a0.Accs a1).bind fun y1_3 => (some y1_3.2))

def mark_Price.f (a0 : Int) : Option Bool := (if a0 ≥ 1 then (some (decide (a0 ≤ 1000000000000))) else (some false))

def book_Right_1.f (a0 : Int) : Option Bool := ((mark_Price.f a0).bind fun y1_1 => (some (!y1_1)))

def slices_IndexFunc_int64_book_Right_1.l0 (a0 : List Int) : Nat → Int → Option (Flow Int Int)
  | 0, _ => none
  | k0 + 1, x8_0 => (if x8_0 < (a0.length : Int) then (if 0 ≤ x8_0 ∧ x8_0 < (a0.length : Int) then ((book_Right_1.f (rd a0 x8_0)).bind fun y4_5 => (if y4_5 = true then (some (.ret x8_0)) else (slices_IndexFunc_int64_book_Right_1.l0 a0 k0 (IntKind.i64.wrap (x8_0 + 1))))) else none) else (some (.out x8_0)))
def slices_IndexFunc_int64_book_Right_1.f (a0 : List Int) : Option Int := ((slices_IndexFunc_int64_book_Right_1.l0 a0 FUEL 0).bind fun f0 => f0.go fun s0 => (some (-1)))

def slices_ContainsFunc_int64_book_Right_1.f (a0 : List Int) : Option Bool := ((slices_IndexFunc_int64_book_Right_1.f a0).bind fun y1_2 => (some (decide (y1_2 ≥ 0))))

def book_Right.l0 (a1 : api_Book) : Nat → Int → Option (Flow Int Bool)
  | 0, _ => none
  | k1 + 1, x59_1 => (if x59_1 < (a1.Rows.length : Int) then (if 0 ≤ x59_1 ∧ x59_1 < (a1.Rows.length : Int) then (if (rd a1.Rows x59_1).Kind = 5 then ((book_Acc.f a1 (rd a1.Rows x59_1).N).bind fun y8_3 => (if ¬(y8_3 = true) then (some (.ret false)) else (book_Right.l0 a1 k1 (IntKind.i64.wrap (x59_1 + 1))))) else (if (rd a1.Rows x59_1).Kind = 6 then (if (rd a1.Rows x59_1).Kind = 6 then ((roll_Status.f a1.Members (rd a1.Rows x59_1).N).bind fun y12_4 => (if y12_4 = 0 then (some (.ret false)) else (book_Right.l0 a1 k1 (IntKind.i64.wrap (x59_1 + 1))))) else (book_Right.l0 a1 k1 (IntKind.i64.wrap (x59_1 + 1)))) else (if (rd a1.Rows x59_1).Kind = 7 then ((roll_Status.f a1.Members (rd a1.Rows x59_1).N).bind fun y12_4 => (if y12_4 = 0 then (some (.ret false)) else (book_Right.l0 a1 k1 (IntKind.i64.wrap (x59_1 + 1))))) else (book_Right.l0 a1 k1 (IntKind.i64.wrap (x59_1 + 1)))))) else none) else (some (.out x59_1)))
def book_Right.l1 (a0 : api_Config) (a1 : api_Book) : Nat → Int → Option (Flow Int Bool)
  | 0, _ => none
  | k8 + 1, x85_8 => (if x85_8 < (a1.Stock.length : Int) then (if 0 ≤ x85_8 ∧ x85_8 < (a1.Stock.length : Int) then (if ¬((rd a1.Stock x85_8).Acc = 0) then ((book_Acc.f a1 (rd a1.Stock x85_8).Acc).bind fun y18_7 => (if ¬(y18_7 = true) then (some (.ret false)) else (if (rd a1.Stock x85_8).Inst ≥ (a0.Insts.length : Int) then (some (.ret false)) else (book_Right.l1 a0 a1 k8 (IntKind.i64.wrap (x85_8 + 1)))))) else (if (rd a1.Stock x85_8).Inst ≥ (a0.Insts.length : Int) then (some (.ret false)) else (book_Right.l1 a0 a1 k8 (IntKind.i64.wrap (x85_8 + 1))))) else none) else (some (.out x85_8)))
def book_Right.l2 (a0 : api_Config) (a1 : api_Book) : Nat → Int → Option (Flow Int Bool)
  | 0, _ => none
  | k11 + 1, x111_11 => (if x111_11 < (a1.Orders.length : Int) then (if 0 ≤ x111_11 ∧ x111_11 < (a1.Orders.length : Int) then ((book_Acc.f a1 (rd a1.Orders x111_11).Acc).bind fun y24_3 => (if ¬(y24_3 = true) then (some (.ret false)) else (if (rd a1.Orders x111_11).Inst ≥ (a0.Insts.length : Int) then (some (.ret false)) else (book_Right.l2 a0 a1 k11 (IntKind.i64.wrap (x111_11 + 1)))))) else none) else (some (.out x111_11)))
def book_Right.f (a0 : api_Config) (a1 : api_Book) : Option Bool := ((plan_Right.f a0).bind fun y1_1 => (if ¬(y1_1 = true) then (some false) else ((roll_Right.f a1.Members a1.Accs).bind fun y1_8 => (if ¬(y1_8 = true) then (some false) else ((ledger_Right.f a1.Rows).bind fun y1_14 => (if ¬(y1_14 = true) then (some false) else ((ledger_Total.f a1.Rows).bind fun y1_20 => ((wide_Sign.f y1_20).bind fun y1_21 => (if ¬(y1_21 = 0) then (some false) else ((stock_Flat.f a1.Stock).bind fun y1_27 => (if ¬(y1_27 = true) then (some false) else ((queue_Right.f a1.Orders).bind fun y1_33 => (if ¬(y1_33 = true) then (some false) else (if ¬((a1.Prices.length : Int) = (a0.Insts.length : Int)) then (some false) else ((book_Right.l0 a1 FUEL 0).bind fun f1 => f1.go fun s1 => ((book_Right.l1 a0 a1 FUEL 0).bind fun f8 => f8.go fun s8 => ((book_Right.l2 a0 a1 FUEL 0).bind fun f11 => f11.go fun s11 => ((slices_ContainsFunc_int64_book_Right_1.f a1.Prices).bind fun y27_2 => (some (!y27_2))))))))))))))))))))

def stock_Of.l0 (a0 : List api_Pos) (a1 : Int) : Nat → List api_Leg → Int → Option ((List api_Leg) × Int)
  | 0, _, _ => none
  | k1 + 1, x5_1, x13_1 => (if x13_1 < (a0.length : Int) then (if 0 ≤ x13_1 ∧ x13_1 < (a0.length : Int) then (if (rd a0 x13_1).Acc = a1 then (if x5_1.length + 1 ≤ 100000000000 then (stock_Of.l0 a0 a1 k1 (x5_1 ++ ([(⟨(rd a0 x13_1).Inst, (rd a0 x13_1).Q⟩ : api_Leg)])) (IntKind.i64.wrap (x13_1 + 1))) else none) else (stock_Of.l0 a0 a1 k1 x5_1 (IntKind.i64.wrap (x13_1 + 1)))) else none) else (some (x5_1, x13_1)))
def stock_Of.f (a0 : List api_Pos) (a1 : Int) : Option ((List api_Leg)) := ((stock_Right.f a0).bind fun y1_1 => (if ¬(y1_1 = true) then (some ([] : List api_Leg)) else ((stock_Of.l0 a0 a1 FUEL ([] : List api_Leg) 0).bind fun s1 => (some s1.1))))

def need_Legs.l0 (a0 : api_Config) (a1 : List api_Leg) : Nat → Int → Option (Flow Int Bool)
  | 0, _ => none
  | k0 + 1, x9_0 => (if x9_0 < (a1.length : Int) then (if 0 ≤ x9_0 ∧ x9_0 < (a1.length : Int) then (if (rd a1 x9_0).Inst < 0 then (some (.ret false)) else (if (rd a1 x9_0).Inst ≥ (a0.Insts.length : Int) then (some (.ret false)) else (if (rd a1 x9_0).Q = 0 then (some (.ret false)) else ((stock_Quantity.f (rd a1 x9_0).Q).bind fun y4_19 => (if ¬(y4_19 = true) then (some (.ret false)) else (if x9_0 > 0 then (if 0 ≤ IntKind.i64.wrap (x9_0 - 1) ∧ IntKind.i64.wrap (x9_0 - 1) < (a1.length : Int) then (if (rd a1 (IntKind.i64.wrap (x9_0 - 1))).Inst ≥ (rd a1 x9_0).Inst then (some (.ret false)) else (need_Legs.l0 a0 a1 k0 (IntKind.i64.wrap (x9_0 + 1)))) else none) else (need_Legs.l0 a0 a1 k0 (IntKind.i64.wrap (x9_0 + 1))))))))) else none) else (some (.out x9_0)))
def need_Legs.f (a0 : api_Config) (a1 : List api_Leg) : Option Bool := ((need_Legs.l0 a0 a1 FUEL 0).bind fun f0 => f0.go fun s0 => ((plan_Right.f a0).bind fun y7_1 => (some y7_1)))

def need_Of_1.f (a0 : api_Inst) : Option Int := (some a0.Rate)

def need_by_need_Of_1.l0 (a0 : api_Config) (a1 : List api_Leg) : Nat → List Int → Int → Option ((List Int) × Int)
  | 0, _, _ => none
  | k1 + 1, x8_1, x20_1 => (if x20_1 < (a1.length : Int) then (if 0 ≤ x20_1 ∧ x20_1 < (a1.length : Int) then ((amount_Size.f (rd a1 x20_1).Q).bind fun y7_3 => (if 0 ≤ (rd a1 x20_1).Inst ∧ (rd a1 x20_1).Inst < (a0.Insts.length : Int) then ((need_Of_1.f (rd a0.Insts (rd a1 x20_1).Inst)).bind fun y7_12 => ((wide_Mul.f (IntKind.i64.wrap y7_3) y7_12).bind fun y7_13 => (if x8_1.length + 1 ≤ 100000000000 then (need_by_need_Of_1.l0 a0 a1 k1 (x8_1 ++ ([y7_13])) (IntKind.i64.wrap (x20_1 + 1))) else none))) else none)) else none) else (some (x8_1, x20_1)))
def need_by_need_Of_1.f (a0 : api_Config) (a1 : List api_Leg) : Option (Int × Int) := ((need_Legs.f a0 a1).bind fun y1_2 => (if ¬(y1_2 = true) then (some (0, 1)) else ((need_by_need_Of_1.l0 a0 a1 FUEL ([] : List Int) 0).bind fun s1 => ((wide_Sum.f s1.1).bind fun y9_1 => (some (y9_1.1, 0))))))

def need_Of.f (a0 : api_Config) (a1 : List api_Leg) : Option (Int × Int) := ((need_by_need_Of_1.f a0 a1).bind fun y1_2 => (some (y1_2.1, y1_2.2)))

def ledger_Get.l0 (a0 : List api_Row) (a1 : Int) (a2 : Int) : Nat → Int → Option (Flow Int Int)
  | 0, _ => none
  | k1 + 1, x14_1 => (if x14_1 < (a0.length : Int) then (if 0 ≤ x14_1 ∧ x14_1 < (a0.length : Int) then (if (rd a0 x14_1).Kind = a1 then (if (rd a0 x14_1).N = a2 then (some (.ret (rd a0 x14_1).Sum)) else (ledger_Get.l0 a0 a1 a2 k1 (IntKind.i64.wrap (x14_1 + 1)))) else (ledger_Get.l0 a0 a1 a2 k1 (IntKind.i64.wrap (x14_1 + 1)))) else none) else (some (.out x14_1)))
def ledger_Get.f (a0 : List api_Row) (a1 : Int) (a2 : Int) : Option Int := ((ledger_Right.f a0).bind fun y1_1 => (if ¬(y1_1 = true) then (some 0) else ((ledger_Get.l0 a0 a1 a2 FUEL 0).bind fun f1 => f1.go fun s1 => (some 0))))

def need_Covers.f (a0 : Int) (a1 : Int) : Option Bool := ((wide_Of.f a0).bind fun y1_1 => ((wide_Cmp.f y1_1 a1).bind fun y1_3 => (some (decide (y1_3 ≥ 0)))))

def port_May.f (a0 : api_Config) (a1 : api_Book) (a2 : Int) (a3 : Int) (a4 : Int) : Option Int := ((book_Right.f a0 a1).bind fun y1_2 => (if ¬(y1_2 = true) then (some 1) else ((roll_Find.f a1.Accs a4).bind fun y3_3 => ((roll_Status.f a1.Members a3).bind fun y4_3 => ((roll_Status.f a1.Members a2).bind fun y5_3 => (if y5_3 = 0 then (if y5_3 = 0 then (some 3) else (if ¬(y3_3.1.Member = a2) then (some 8) else (if ¬(y3_3.1.Kind = 2) then (some 8) else (if ¬(y4_3 = 1) then (some 7) else ((stock_Of.f a1.Stock a4).bind fun y13_4 => ((need_Of.f a0 y13_4).bind fun y13_5 => ((ledger_Get.f a1.Rows 5 a4).bind fun y14_3 => ((need_Covers.f y14_3 y13_5.1).bind fun y14_5 => (if ¬(y14_5 = true) then (some 10) else (some 0)))))))))) else (if y4_3 = 0 then (if y4_3 = 0 then (some 3) else (if ¬(y3_3.1.Member = a2) then (some 8) else (if ¬(y3_3.1.Kind = 2) then (some 8) else (if ¬(y4_3 = 1) then (some 7) else ((stock_Of.f a1.Stock a4).bind fun y13_4 => ((need_Of.f a0 y13_4).bind fun y13_5 => ((ledger_Get.f a1.Rows 5 a4).bind fun y14_3 => ((need_Covers.f y14_3 y13_5.1).bind fun y14_5 => (if ¬(y14_5 = true) then (some 10) else (some 0)))))))))) else (if ¬(y3_3.2 = true) then (some 3) else (if ¬(y3_3.1.Member = a2) then (some 8) else (if ¬(y3_3.1.Kind = 2) then (some 8) else (if ¬(y4_3 = 1) then (some 7) else ((stock_Of.f a1.Stock a4).bind fun y13_4 => ((need_Of.f a0 y13_4).bind fun y13_5 => ((ledger_Get.f a1.Rows 5 a4).bind fun y14_3 => ((need_Covers.f y14_3 y13_5.1).bind fun y14_5 => (if ¬(y14_5 = true) then (some 10) else (some 0)))))))))))))))))

def slices_Clone_api_Member.f (a0 : List api_Member) : Option ((List api_Member)) := (nilT (a0 = []) (some ([] : List api_Member)) (if a0.length ≤ 100000000000 then (some a0) else none))

def slices_Clone_api_Acc.f (a0 : List api_Acc) : Option ((List api_Acc)) := (nilT (a0 = []) (some ([] : List api_Acc)) (if a0.length ≤ 100000000000 then (some a0) else none))

def slices_Clone_api_Row.f (a0 : List api_Row) : Option ((List api_Row)) := (nilT (a0 = []) (some ([] : List api_Row)) (if a0.length ≤ 100000000000 then (some a0) else none))

def slices_Clone_api_Pos.f (a0 : List api_Pos) : Option ((List api_Pos)) := (nilT (a0 = []) (some ([] : List api_Pos)) (if a0.length ≤ 100000000000 then (some a0) else none))

def slices_Clone_int64.f (a0 : List Int) : Option ((List Int)) := (nilT (a0 = []) (some ([] : List Int)) (if a0.length ≤ 100000000000 then (some a0) else none))

def slices_Clone_api_Order.f (a0 : List api_Order) : Option ((List api_Order)) := (nilT (a0 = []) (some ([] : List api_Order)) (if a0.length ≤ 100000000000 then (some a0) else none))

def book_Copy.f (a0 : api_Book) : Option api_Book := ((slices_Clone_api_Member.f a0.Members).bind fun y1_2 => ((slices_Clone_api_Acc.f a0.Accs).bind fun y1_5 => ((slices_Clone_api_Row.f a0.Rows).bind fun y1_8 => ((slices_Clone_api_Pos.f a0.Stock).bind fun y1_11 => ((slices_Clone_int64.f a0.Prices).bind fun y1_14 => ((slices_Clone_api_Order.f a0.Orders).bind fun y1_17 => (some (⟨y1_2, y1_5, y1_8, y1_11, y1_14, y1_17⟩ : api_Book))))))))

def roll_with.l0 (a1 : api_Acc) (y1_1 : (List api_Acc)) : Nat → List api_Acc → Int → Option ((List api_Acc) × Int)
  | 0, _, _ => none
  | k0 + 1, x5_0, x11_0 => (if x11_0 < (y1_1.length : Int) then (if 0 ≤ x11_0 ∧ x11_0 < (x5_0.length : Int) then (if (rd x5_0 x11_0).Id = a1.Id then (roll_with.l0 a1 y1_1 k0 (x5_0.set x11_0.toNat a1) (IntKind.i64.wrap (x11_0 + 1))) else (roll_with.l0 a1 y1_1 k0 x5_0 (IntKind.i64.wrap (x11_0 + 1)))) else none) else (some (x5_0, x11_0)))
def roll_with.f (a0 : List api_Acc) (a1 : api_Acc) : Option ((List api_Acc)) := ((slices_Clone_api_Acc.f a0).bind fun y1_1 => ((roll_with.l0 a1 y1_1 FUEL y1_1 0).bind fun s0 => (some s0.1)))

def roll_Port.f (a0 : List api_Member) (a1 : List api_Acc) (a2 : Int) (a3 : Int) : Option ((List api_Acc) × Int) := ((roll_Right.f a0 a1).bind fun y1_2 => (if ¬(y1_2 = true) then (some (([] : List api_Acc), 1)) else ((roll_Find.f a1 a2).bind fun y3_2 => ((roll_Status.f a0 a3).bind fun y4_2 => (if ¬(y3_2.2 = true) then (if ¬(y3_2.2 = true) then (some (([] : List api_Acc), 3)) else (if ¬(y3_2.1.Kind = 2) then (some (([] : List api_Acc), 8)) else (if ¬(y4_2 = 1) then (some (([] : List api_Acc), 7)) else ((roll_with.f a1 ({ y3_2.1 with Member := a3 } : api_Acc)).bind fun y13_2 => (some (y13_2, 0)))))) else (if y4_2 = 0 then (some (([] : List api_Acc), 3)) else (if ¬(y3_2.1.Kind = 2) then (some (([] : List api_Acc), 8)) else (if ¬(y4_2 = 1) then (some (([] : List api_Acc), 7)) else ((roll_with.f a1 ({ y3_2.1 with Member := a3 } : api_Acc)).bind fun y13_2 => (some (y13_2, 0)))))))))))

def port_Port.f (a0 : api_Config) (a1 : api_Book) (a2 : Int) (a3 : Int) (a4 : Int) : Option (api_Book × Int) := ((port_May.f a0 a1 a2 a3 a4).bind fun y1_5 => (if ¬(y1_5 = 0) then (some ((⟨([] : List api_Member), ([] : List api_Acc), ([] : List api_Row), ([] : List api_Pos), ([] : List Int), ([] : List api_Order)⟩ : api_Book), y1_5)) else ((book_Copy.f a1).bind fun y4_1 => ((roll_Port.f a1.Members a1.Accs a4 a3).bind fun y5_6 => (if ¬(y5_6.2 = 0) then (some ((⟨([] : List api_Member), ([] : List api_Acc), ([] : List api_Row), ([] : List api_Pos), ([] : List Int), ([] : List api_Order)⟩ : api_Book), y5_6.2)) else (some (({ y4_1 with Accs := y5_6.1 } : api_Book), 0)))))))

def novationref10_Accs.l1 (a0 : List api_Acc) (x3_0 : Int) : Nat → Int → Option (Flow Int Bool)
  | 0, _ => none
  | k3 + 1, x5_3 => (if x5_3 < x3_0 then (if (rd a0 x3_0).Kind = 1 then (if 0 ≤ x5_3 ∧ x5_3 < (a0.length : Int) then (if (rd a0 x5_3).Kind = 1 then (if (rd a0 x5_3).Member = (rd a0 x3_0).Member then (some (.ret false)) else (novationref10_Accs.l1 a0 x3_0 k3 (IntKind.i64.wrap (x5_3 + 1)))) else (novationref10_Accs.l1 a0 x3_0 k3 (IntKind.i64.wrap (x5_3 + 1)))) else none) else (novationref10_Accs.l1 a0 x3_0 k3 (IntKind.i64.wrap (x5_3 + 1)))) else (some (.out x5_3)))
def novationref10_Accs.l2 (a0 : List api_Acc) (x3_0 : Int) : Nat → Int → Option (Flow Int Bool)
  | 0, _ => none
  | k3 + 1, x5_3 => (if x5_3 < x3_0 then (if (rd a0 x3_0).Kind = 1 then (if 0 ≤ x5_3 ∧ x5_3 < (a0.length : Int) then (if (rd a0 x5_3).Kind = 1 then (if (rd a0 x5_3).Member = (rd a0 x3_0).Member then (some (.ret false)) else (novationref10_Accs.l2 a0 x3_0 k3 (IntKind.i64.wrap (x5_3 + 1)))) else (novationref10_Accs.l2 a0 x3_0 k3 (IntKind.i64.wrap (x5_3 + 1)))) else none) else (novationref10_Accs.l2 a0 x3_0 k3 (IntKind.i64.wrap (x5_3 + 1)))) else (some (.out x5_3)))
def novationref10_Accs.l3 (a0 : List api_Acc) (x3_0 : Int) : Nat → Int → Option (Flow Int Bool)
  | 0, _ => none
  | k3 + 1, x5_3 => (if x5_3 < x3_0 then (if (rd a0 x3_0).Kind = 1 then (if 0 ≤ x5_3 ∧ x5_3 < (a0.length : Int) then (if (rd a0 x5_3).Kind = 1 then (if (rd a0 x5_3).Member = (rd a0 x3_0).Member then (some (.ret false)) else (novationref10_Accs.l3 a0 x3_0 k3 (IntKind.i64.wrap (x5_3 + 1)))) else (novationref10_Accs.l3 a0 x3_0 k3 (IntKind.i64.wrap (x5_3 + 1)))) else none) else (novationref10_Accs.l3 a0 x3_0 k3 (IntKind.i64.wrap (x5_3 + 1)))) else (some (.out x5_3)))
def novationref10_Accs.l4 (a0 : List api_Acc) (x3_0 : Int) : Nat → Int → Option (Flow Int Bool)
  | 0, _ => none
  | k3 + 1, x5_3 => (if x5_3 < x3_0 then (if (rd a0 x3_0).Kind = 1 then (if 0 ≤ x5_3 ∧ x5_3 < (a0.length : Int) then (if (rd a0 x5_3).Kind = 1 then (if (rd a0 x5_3).Member = (rd a0 x3_0).Member then (some (.ret false)) else (novationref10_Accs.l4 a0 x3_0 k3 (IntKind.i64.wrap (x5_3 + 1)))) else (novationref10_Accs.l4 a0 x3_0 k3 (IntKind.i64.wrap (x5_3 + 1)))) else none) else (novationref10_Accs.l4 a0 x3_0 k3 (IntKind.i64.wrap (x5_3 + 1)))) else (some (.out x5_3)))
def novationref10_Accs.l0 (a0 : List api_Acc) : Nat → Int → Option (Flow Int Bool)
  | 0, _ => none
  | k0 + 1, x3_0 => (if x3_0 < (a0.length : Int) then (if 0 ≤ x3_0 ∧ x3_0 < (a0.length : Int) then (if (rd a0 x3_0).Id < 1 then (some (.ret false)) else (if (rd a0 x3_0).Id > 24 then (some (.ret false)) else (if (rd a0 x3_0).Member < 1 then (some (.ret false)) else (if (rd a0 x3_0).Member > 12 then (some (.ret false)) else (if ¬((rd a0 x3_0).Kind = 1) then (if ¬((rd a0 x3_0).Kind = 2) then (some (.ret false)) else (if (rd a0 x3_0).Limit < 0 then (some (.ret false)) else (if (rd a0 x3_0).Limit > 1000000000000 then (some (.ret false)) else (if x3_0 > 0 then (if 0 ≤ IntKind.i64.wrap (x3_0 - 1) ∧ IntKind.i64.wrap (x3_0 - 1) < (a0.length : Int) then (if (rd a0 x3_0).Id ≤ (rd a0 (IntKind.i64.wrap (x3_0 - 1))).Id then (some (.ret false)) else ((novationref10_Accs.l1 a0 x3_0 FUEL 0).bind fun f3 => f3.goL fun s3 => (novationref10_Accs.l0 a0 k0 (IntKind.i64.wrap (x3_0 + 1))))) else none) else ((novationref10_Accs.l2 a0 x3_0 FUEL 0).bind fun f3 => f3.goL fun s3 => (novationref10_Accs.l0 a0 k0 (IntKind.i64.wrap (x3_0 + 1)))))))) else (if (rd a0 x3_0).Limit < 0 then (some (.ret false)) else (if (rd a0 x3_0).Limit > 1000000000000 then (some (.ret false)) else (if x3_0 > 0 then (if 0 ≤ IntKind.i64.wrap (x3_0 - 1) ∧ IntKind.i64.wrap (x3_0 - 1) < (a0.length : Int) then (if (rd a0 x3_0).Id ≤ (rd a0 (IntKind.i64.wrap (x3_0 - 1))).Id then (some (.ret false)) else ((novationref10_Accs.l3 a0 x3_0 FUEL 0).bind fun f3 => f3.goL fun s3 => (novationref10_Accs.l0 a0 k0 (IntKind.i64.wrap (x3_0 + 1))))) else none) else ((novationref10_Accs.l4 a0 x3_0 FUEL 0).bind fun f3 => f3.goL fun s3 => (novationref10_Accs.l0 a0 k0 (IntKind.i64.wrap (x3_0 + 1)))))))))))) else none) else (some (.out x3_0)))
def novationref10_Accs.f (a0 : List api_Acc) : Option Bool := ((novationref10_Accs.l0 a0 FUEL 0).bind fun f0 => f0.go fun s0 => (some true))

def novationref10_find.l0 (a0 : List api_Acc) (a1 : Int) : Nat → Int → Option (Flow Int (api_Acc × Bool))
  | 0, _ => none
  | k0 + 1, x6_0 => (if x6_0 < (a0.length : Int) then (if 0 ≤ x6_0 ∧ x6_0 < (a0.length : Int) then (if (rd a0 x6_0).Id = a1 then (some (.ret (rd a0 x6_0, true))) else (novationref10_find.l0 a0 a1 k0 (IntKind.i64.wrap (x6_0 + 1)))) else none) else (some (.out x6_0)))
def novationref10_find.f (a0 : List api_Acc) (a1 : Int) : Option (api_Acc × Bool) := ((novationref10_find.l0 a0 a1 FUEL 0).bind fun f0 => f0.go fun s0 => (some ((⟨0, 0, 0, 0⟩ : api_Acc), false)))

def novationref10_Find.f (a0 : List api_Acc) (a1 : Int) : Option (api_Acc × Bool) := ((novationref10_Accs.f a0).bind fun y1_1 => (if ¬(y1_1 = true) then (some ((⟨0, 0, 0, 0⟩ : api_Acc), false)) else ((novationref10_find.f a0 a1).bind fun y3_2 => (some (y3_2.1, y3_2.2)))))

def port_Stay.l0 (a1 : api_Book) (a2 : Int) : Nat → List Int → Int → Option ((List Int) × Int)
  | 0, _, _ => none
  | k2 + 1, x8_2, x25_2 => (if x25_2 < (a1.Accs.length : Int) then (if 0 ≤ x25_2 ∧ x25_2 < (a1.Accs.length : Int) then (if (rd a1.Accs x25_2).Member = a2 then (if (rd a1.Accs x25_2).Kind = 2 then (if x8_2.length + 1 ≤ 100000000000 then (port_Stay.l0 a1 a2 k2 (x8_2 ++ ([(rd a1.Accs x25_2).Id])) (IntKind.i64.wrap (x25_2 + 1))) else none) else (port_Stay.l0 a1 a2 k2 x8_2 (IntKind.i64.wrap (x25_2 + 1)))) else (port_Stay.l0 a1 a2 k2 x8_2 (IntKind.i64.wrap (x25_2 + 1)))) else none) else (some (x8_2, x25_2)))
def port_Stay.f (a0 : api_Config) (a1 : api_Book) (a2 : Int) : Option ((List Int) × Int) := ((book_Right.f a0 a1).bind fun y1_2 => (if ¬(y1_2 = true) then (some (([] : List Int), 1)) else ((roll_Status.f a1.Members a2).bind fun y3_3 => (if y3_3 = 0 then (some (([] : List Int), 3)) else ((port_Stay.l0 a1 a2 FUEL ([] : List Int) 0).bind fun s2 => (some (s2.1, 0)))))))

def novationhelp_Nums.l0 (a0 : List Int) (a1 : List Int) : Nat → Int → Option (Flow Int Bool)
  | 0, _ => none
  | k1 + 1, x5_1 => (if x5_1 < (a0.length : Int) then (if 0 ≤ x5_1 ∧ x5_1 < (a0.length : Int) then (if 0 ≤ x5_1 ∧ x5_1 < (a1.length : Int) then (if ¬((rd a0 x5_1) = (rd a1 x5_1)) then (some (.ret false)) else (novationhelp_Nums.l0 a0 a1 k1 (IntKind.i64.wrap (x5_1 + 1)))) else none) else none) else (some (.out x5_1)))
def novationhelp_Nums.f (a0 : List Int) (a1 : List Int) : Option Bool := (if ¬((a0.length : Int) = (a1.length : Int)) then (some false) else ((novationhelp_Nums.l0 a0 a1 FUEL 0).bind fun f1 => f1.go fun s1 => (some true)))

def novationlaw20_known.f : Option Bool := ((novationlaw20_small.f).bind fun y1_0 => ((port_Port.f y1_0.1 y1_0.2 1 2 2).bind fun y2_2 => ((novationref10_Find.f y2_2.1.Accs 2).bind fun y3_2 => ((port_Stay.f y1_0.1 y1_0.2 1).bind fun y4_2 => (if y2_2.2 = 0 then (if y3_2.2 = true then (if y3_2.1.Member = 2 then (if y4_2.2 = 0 then ((novationhelp_Nums.f y4_2.1 ([2, 3])).bind fun y5_17 => (if y5_17 = true then ((port_May.f y1_0.1 y1_0.2 1 2 3).bind fun y5_22 => (if y5_22 = 10 then ((port_May.f y1_0.1 y1_0.2 1 3 2).bind fun y5_28 => (if y5_28 = 7 then ((port_May.f y1_0.1 y1_0.2 1 2 1).bind fun y5_34 => (if y5_34 = 8 then ((port_May.f y1_0.1 y1_0.2 1 9 2).bind fun y5_40 => (if y5_40 = 3 then ((port_May.f y1_0.1 y1_0.2 1 2 2).bind fun y5_46 => (some (y5_46 == 0))) else (some false))) else (some false))) else (some false))) else (some false))) else (some false))) else (some false)) else (some false)) else (some false)) else (some false))))))

def novationref4_within.f (a0 : Int) (a1 : Int) (a2 : Int) : Option Bool := (if a0 ≥ a1 then (some (decide (a0 ≤ a2))) else (some false))

def novationref4_RightPlan.l0 (a0 : api_Config) : Nat → Int → Option (Flow Int Bool)
  | 0, _ => none
  | k1 + 1, x3_1 => (if x3_1 < (a0.Insts.length : Int) then (if 0 ≤ x3_1 ∧ x3_1 < (a0.Insts.length : Int) then ((novationref4_within.f (rd a0.Insts x3_1).Bucket 0 3).bind fun y7_2 => (if ¬(y7_2 = true) then (some (.ret false)) else ((novationref4_within.f (rd a0.Insts x3_1).Price 1 1000000000000).bind fun y7_7 => (if ¬(y7_7 = true) then (some (.ret false)) else ((novationref4_within.f (rd a0.Insts x3_1).Rate 0 1000000000).bind fun y7_13 => (if ¬(y7_13 = true) then (some (.ret false)) else ((novationref4_within.f (rd a0.Insts x3_1).Slip 0 1000000000).bind fun y7_19 => (if ¬(y7_19 = true) then (some (.ret false)) else (novationref4_RightPlan.l0 a0 k1 (IntKind.i64.wrap (x3_1 + 1))))))))))) else none) else (some (.out x3_1)))
def novationref4_RightPlan.f (a0 : api_Config) : Option Bool := (if (a0.Insts.length : Int) < 1 then (some false) else (if (a0.Insts.length : Int) > 6 then (some false) else ((novationref4_RightPlan.l0 a0 FUEL 0).bind fun f1 => f1.go fun s1 => (if a0.Skin ≥ 0 then ((novationref4_within.f a0.Times 0 4).bind fun y9_6 => (if y9_6 = true then ((novationref4_within.f a0.Port 0 1000000).bind fun y9_11 => (if y9_11 = true then ((novationref4_within.f a0.Bid 0 1000000).bind fun y9_16 => (if y9_16 = true then ((novationref4_within.f a0.LotSize 1 4611686018427387904).bind fun y9_21 => (if y9_21 = true then (some (decide (a0.HedgeMin ≥ 0))) else (some false))) else (some false))) else (some false))) else (some false))) else (some false)))))

def novationref10_Members.l0 (a0 : List api_Member) : Nat → Int → Option (Flow Int Bool)
  | 0, _ => none
  | k0 + 1, x3_0 => (if x3_0 < (a0.length : Int) then (if 0 ≤ x3_0 ∧ x3_0 < (a0.length : Int) then (if (rd a0 x3_0).Id < 1 then (some (.ret false)) else (if (rd a0 x3_0).Id > 12 then (some (.ret false)) else (if (rd a0 x3_0).Status < 1 then (some (.ret false)) else (if (rd a0 x3_0).Status > 4 then (some (.ret false)) else (if x3_0 > 0 then (if 0 ≤ IntKind.i64.wrap (x3_0 - 1) ∧ IntKind.i64.wrap (x3_0 - 1) < (a0.length : Int) then (if (rd a0 x3_0).Id ≤ (rd a0 (IntKind.i64.wrap (x3_0 - 1))).Id then (some (.ret false)) else (novationref10_Members.l0 a0 k0 (IntKind.i64.wrap (x3_0 + 1)))) else none) else (novationref10_Members.l0 a0 k0 (IntKind.i64.wrap (x3_0 + 1)))))))) else none) else (some (.out x3_0)))
def novationref10_Members.f (a0 : List api_Member) : Option Bool := ((novationref10_Members.l0 a0 FUEL 0).bind fun f0 => f0.go fun s0 => (some true))

def novationref10_status.l0 (a0 : List api_Member) (a1 : Int) : Nat → Int → Option (Flow Int Int)
  | 0, _ => none
  | k0 + 1, x5_0 => (if x5_0 < (a0.length : Int) then (if 0 ≤ x5_0 ∧ x5_0 < (a0.length : Int) then (if (rd a0 x5_0).Id = a1 then (some (.ret (rd a0 x5_0).Status)) else (novationref10_status.l0 a0 a1 k0 (IntKind.i64.wrap (x5_0 + 1)))) else none) else (some (.out x5_0)))
def novationref10_status.f (a0 : List api_Member) (a1 : Int) : Option Int := ((novationref10_status.l0 a0 a1 FUEL 0).bind fun f0 => f0.go fun s0 => (some 0))

def novationref10_RightRoll.l0 (a0 : List api_Member) (a1 : List api_Acc) : Nat → Int → Option (Flow Int Bool)
  | 0, _ => none
  | k1 + 1, x5_1 => (if x5_1 < (a1.length : Int) then (if 0 ≤ x5_1 ∧ x5_1 < (a1.length : Int) then ((novationref10_status.f a0 (rd a1 x5_1).Member).bind fun y6_6 => (if y6_6 = 0 then (some (.ret false)) else (novationref10_RightRoll.l0 a0 a1 k1 (IntKind.i64.wrap (x5_1 + 1))))) else none) else (some (.out x5_1)))
def novationref10_RightRoll.f (a0 : List api_Member) (a1 : List api_Acc) : Option Bool := ((novationref10_Members.f a0).bind fun y1_1 => (if ¬(y1_1 = true) then (some false) else ((novationref10_Accs.f a1).bind fun y1_5 => (if ¬(y1_5 = true) then (some false) else ((novationref10_RightRoll.l0 a0 a1 FUEL 0).bind fun f1 => f1.go fun s1 => (some true))))))

def novationref10_Key.f (a0 : Int) (a1 : Int) : Option Bool := (if a0 = 1 then (if a0 = 1 then (some (a1 == 0)) else (if a0 = 5 then (if a1 ≥ 1 then (some (decide (a1 ≤ 24))) else (some false)) else (if a0 = 6 then (if a0 = 6 then (if a1 ≥ 1 then (some (decide (a1 ≤ 12))) else (some false)) else (some false)) else (if a0 = 7 then (if a1 ≥ 1 then (some (decide (a1 ≤ 12))) else (some false)) else (some false))))) else (if a0 = 2 then (if a0 = 2 then (some (a1 == 0)) else (if a0 = 5 then (if a1 ≥ 1 then (some (decide (a1 ≤ 24))) else (some false)) else (if a0 = 6 then (if a0 = 6 then (if a1 ≥ 1 then (some (decide (a1 ≤ 12))) else (some false)) else (some false)) else (if a0 = 7 then (if a1 ≥ 1 then (some (decide (a1 ≤ 12))) else (some false)) else (some false))))) else (if a0 = 3 then (if a0 = 3 then (some (a1 == 0)) else (if a0 = 5 then (if a1 ≥ 1 then (some (decide (a1 ≤ 24))) else (some false)) else (if a0 = 6 then (if a0 = 6 then (if a1 ≥ 1 then (some (decide (a1 ≤ 12))) else (some false)) else (some false)) else (if a0 = 7 then (if a1 ≥ 1 then (some (decide (a1 ≤ 12))) else (some false)) else (some false))))) else (if a0 = 4 then (some (a1 == 0)) else (if a0 = 5 then (if a1 ≥ 1 then (some (decide (a1 ≤ 24))) else (some false)) else (if a0 = 6 then (if a0 = 6 then (if a1 ≥ 1 then (some (decide (a1 ≤ 12))) else (some false)) else (some false)) else (if a0 = 7 then (if a1 ≥ 1 then (some (decide (a1 ≤ 12))) else (some false)) else (some false))))))))

def novationref10_Rows.l0 (a0 : List api_Row) : Nat → Int → Option (Flow Int Bool)
  | 0, _ => none
  | k0 + 1, x3_0 => (if x3_0 < (a0.length : Int) then (if 0 ≤ x3_0 ∧ x3_0 < (a0.length : Int) then ((novationref10_Key.f (rd a0 x3_0).Kind (rd a0 x3_0).N).bind fun y4_10 => (if ¬(y4_10 = true) then (some (.ret false)) else (if (rd a0 x3_0).Sum = 0 then (some (.ret false)) else (if x3_0 > 0 then (if 0 ≤ IntKind.i64.wrap (x3_0 - 1) ∧ IntKind.i64.wrap (x3_0 - 1) < (a0.length : Int) then (if (rd a0 x3_0).Kind < (rd a0 (IntKind.i64.wrap (x3_0 - 1))).Kind then (some (.ret false)) else (if (rd a0 x3_0).Kind = (rd a0 (IntKind.i64.wrap (x3_0 - 1))).Kind then (if (rd a0 x3_0).N ≤ (rd a0 (IntKind.i64.wrap (x3_0 - 1))).N then (some (.ret false)) else (novationref10_Rows.l0 a0 k0 (IntKind.i64.wrap (x3_0 + 1)))) else (novationref10_Rows.l0 a0 k0 (IntKind.i64.wrap (x3_0 + 1))))) else none) else (novationref10_Rows.l0 a0 k0 (IntKind.i64.wrap (x3_0 + 1))))))) else none) else (some (.out x3_0)))
def novationref10_Rows.f (a0 : List api_Row) : Option Bool := ((novationref10_Rows.l0 a0 FUEL 0).bind fun f0 => f0.go fun s0 => (some true))

def novationref10_Stock.l0 (a0 : List api_Pos) : Nat → Int → Option (Flow Int Bool)
  | 0, _ => none
  | k0 + 1, x3_0 => (if x3_0 < (a0.length : Int) then (if 0 ≤ x3_0 ∧ x3_0 < (a0.length : Int) then (if (rd a0 x3_0).Acc < 0 then (some (.ret false)) else (if (rd a0 x3_0).Acc > 24 then (some (.ret false)) else (if (rd a0 x3_0).Inst < 0 then (some (.ret false)) else (if (rd a0 x3_0).Inst ≥ 6 then (some (.ret false)) else (if (rd a0 x3_0).Q = 0 then (some (.ret false)) else (if (rd a0 x3_0).Q = (-9223372036854775808) then (some (.ret false)) else (if x3_0 > 0 then (if 0 ≤ IntKind.i64.wrap (x3_0 - 1) ∧ IntKind.i64.wrap (x3_0 - 1) < (a0.length : Int) then (if (rd a0 x3_0).Acc < (rd a0 (IntKind.i64.wrap (x3_0 - 1))).Acc then (some (.ret false)) else (if (rd a0 x3_0).Acc = (rd a0 (IntKind.i64.wrap (x3_0 - 1))).Acc then (if (rd a0 x3_0).Inst ≤ (rd a0 (IntKind.i64.wrap (x3_0 - 1))).Inst then (some (.ret false)) else (novationref10_Stock.l0 a0 k0 (IntKind.i64.wrap (x3_0 + 1)))) else (novationref10_Stock.l0 a0 k0 (IntKind.i64.wrap (x3_0 + 1))))) else none) else (novationref10_Stock.l0 a0 k0 (IntKind.i64.wrap (x3_0 + 1)))))))))) else none) else (some (.out x3_0)))
def novationref10_Stock.f (a0 : List api_Pos) : Option Bool := ((novationref10_Stock.l0 a0 FUEL 0).bind fun f0 => f0.go fun s0 => (some true))

def novationref10_SumInst.l0 (a0 : List api_Pos) (a1 : Int) : Nat → Int → Int → Option (Int × Int)
  | 0, _, _ => none
  | k1 + 1, x5_1, x6_1 => (if x6_1 < (a0.length : Int) then (if 0 ≤ x6_1 ∧ x6_1 < (a0.length : Int) then (if (rd a0 x6_1).Inst = a1 then ((novationref1_Whole.f (rd a0 x6_1).Q).bind fun y8_6 => ((novationref1_Plus.f x5_1 y8_6).bind fun y8_7 => (novationref10_SumInst.l0 a0 a1 k1 y8_7 (IntKind.i64.wrap (x6_1 + 1))))) else (novationref10_SumInst.l0 a0 a1 k1 x5_1 (IntKind.i64.wrap (x6_1 + 1)))) else none) else (some (x5_1, x6_1)))
def novationref10_SumInst.f (a0 : List api_Pos) (a1 : Int) : Option Int := ((novationref10_Stock.f a0).bind fun y2_1 => (if ¬(y2_1 = true) then (some 0) else ((novationref10_SumInst.l0 a0 a1 FUEL 0 0).bind fun s1 => (some s1.1))))

def novationref10_Flat.l0 (a0 : List api_Pos) : Nat → Int → Option (Flow Int Bool)
  | 0, _ => none
  | k0 + 1, x3_0 => (if x3_0 < 6 then ((novationref10_SumInst.f a0 x3_0).bind fun y4_2 => ((novationref1_Sign.f y4_2).bind fun y4_3 => (if ¬(y4_3 = 0) then (some (.ret false)) else (novationref10_Flat.l0 a0 k0 (IntKind.i64.wrap (x3_0 + 1)))))) else (some (.out x3_0)))
def novationref10_Flat.f (a0 : List api_Pos) : Option Bool := ((novationref10_Flat.l0 a0 FUEL 0).bind fun f0 => f0.go fun s0 => ((novationref10_Stock.f a0).bind fun y6_1 => (some y6_1)))

def novationref15_price.f (a0 : Int) : Option Bool := (if a0 ≥ 1 then (some (decide (a0 ≤ 1000000000000))) else (some false))

def novationref15_RightOrder.f (a0 : api_Order) : Option Bool := (if a0.Id ≥ 1 then (if a0.Id ≤ 1099511627776 then (if a0.Acc ≥ 1 then (if a0.Acc ≤ 24 then (if a0.Inst ≥ 0 then (if a0.Inst < 6 then (if a0.Side = 1 then (if a0.Q ≥ 1 then (if a0.Q ≤ 1000000000 then ((novationref15_price.f a0.P).bind fun y1_51 => (some y1_51)) else (some false)) else (some false)) else (if a0.Side = 2 then (if a0.Q ≥ 1 then (if a0.Q ≤ 1000000000 then ((novationref15_price.f a0.P).bind fun y1_51 => (some y1_51)) else (some false)) else (some false)) else (some false))) else (some false)) else (some false)) else (some false)) else (some false)) else (some false)) else (some false))

def novationref15_Orders.l0 (a0 : List api_Order) : Nat → Int → Option (Flow Int Bool)
  | 0, _ => none
  | k1 + 1, x3_1 => (if x3_1 < (a0.length : Int) then (if 0 ≤ x3_1 ∧ x3_1 < (a0.length : Int) then ((novationref15_RightOrder.f (rd a0 x3_1)).bind fun y6_4 => (if ¬(y6_4 = true) then (some (.ret false)) else (if x3_1 > 0 then (if 0 ≤ IntKind.i64.wrap (x3_1 - 1) ∧ IntKind.i64.wrap (x3_1 - 1) < (a0.length : Int) then (if (rd a0 x3_1).Id ≤ (rd a0 (IntKind.i64.wrap (x3_1 - 1))).Id then (some (.ret false)) else (novationref15_Orders.l0 a0 k1 (IntKind.i64.wrap (x3_1 + 1)))) else none) else (novationref15_Orders.l0 a0 k1 (IntKind.i64.wrap (x3_1 + 1)))))) else none) else (some (.out x3_1)))
def novationref15_Orders.f (a0 : List api_Order) : Option Bool := (if (a0.length : Int) > 32 then (some false) else ((novationref15_Orders.l0 a0 FUEL 0).bind fun f1 => f1.go fun s1 => (some true)))

def novationref10_Total.l0 (a0 : List api_Row) : Nat → Int → Int → Option (Int × Int)
  | 0, _, _ => none
  | k1 + 1, x3_1, x4_1 => (if x4_1 < (a0.length : Int) then (if 0 ≤ x4_1 ∧ x4_1 < (a0.length : Int) then ((novationref1_Whole.f (rd a0 x4_1).Sum).bind fun y7_6 => ((novationref1_Plus.f x3_1 y7_6).bind fun y7_7 => (novationref10_Total.l0 a0 k1 y7_7 (IntKind.i64.wrap (x4_1 + 1))))) else none) else (some (x3_1, x4_1)))
def novationref10_Total.f (a0 : List api_Row) : Option Int := ((novationref10_Rows.f a0).bind fun y2_1 => (if ¬(y2_1 = true) then (some 0) else ((novationref10_Total.l0 a0 FUEL 0 0).bind fun s1 => (some s1.1))))

def novationref15_there.f (a0 : api_Book) (a1 : Int) : Option Bool := ((novationref10_Find.f a0.Accs a1).bind fun y1_3 => (if y1_3.2 = true then (some true) else (some (a1 == 0))))

def novationref10_Status.f (a0 : List api_Member) (a1 : Int) : Option Int := ((novationref10_Members.f a0).bind fun y1_1 => (if ¬(y1_1 = true) then (some 0) else ((novationref10_status.f a0 a1).bind fun y3_2 => (some y3_2))))

def novationref15_RightBook.l0 (a1 : api_Book) : Nat → Int → Option (Flow Int Bool)
  | 0, _ => none
  | k2 + 1, x5_2 => (if x5_2 < (a1.Rows.length : Int) then (if 0 ≤ x5_2 ∧ x5_2 < (a1.Rows.length : Int) then (if (rd a1.Rows x5_2).Kind = 5 then ((novationref15_there.f a1 (rd a1.Rows x5_2).N).bind fun y9_7 => (if ¬(y9_7 = true) then (some (.ret false)) else (if (rd a1.Rows x5_2).Kind = 6 then ((novationref10_Status.f a1.Members (rd a1.Rows x5_2).N).bind fun y9_24 => (if y9_24 = 0 then (some (.ret false)) else (novationref15_RightBook.l0 a1 k2 (IntKind.i64.wrap (x5_2 + 1))))) else (if (rd a1.Rows x5_2).Kind = 7 then ((novationref10_Status.f a1.Members (rd a1.Rows x5_2).N).bind fun y9_24 => (if y9_24 = 0 then (some (.ret false)) else (novationref15_RightBook.l0 a1 k2 (IntKind.i64.wrap (x5_2 + 1))))) else (novationref15_RightBook.l0 a1 k2 (IntKind.i64.wrap (x5_2 + 1))))))) else (if (rd a1.Rows x5_2).Kind = 6 then ((novationref10_Status.f a1.Members (rd a1.Rows x5_2).N).bind fun y9_24 => (if y9_24 = 0 then (some (.ret false)) else (novationref15_RightBook.l0 a1 k2 (IntKind.i64.wrap (x5_2 + 1))))) else (if (rd a1.Rows x5_2).Kind = 7 then ((novationref10_Status.f a1.Members (rd a1.Rows x5_2).N).bind fun y9_24 => (if y9_24 = 0 then (some (.ret false)) else (novationref15_RightBook.l0 a1 k2 (IntKind.i64.wrap (x5_2 + 1))))) else (novationref15_RightBook.l0 a1 k2 (IntKind.i64.wrap (x5_2 + 1)))))) else none) else (some (.out x5_2)))
def novationref15_RightBook.l1 (a0 : api_Config) (a1 : api_Book) : Nat → Int → Option (Flow Int Bool)
  | 0, _ => none
  | k5 + 1, x7_5 => (if x7_5 < (a1.Stock.length : Int) then (if 0 ≤ x7_5 ∧ x7_5 < (a1.Stock.length : Int) then ((novationref15_there.f a1 (rd a1.Stock x7_5).Acc).bind fun y14_7 => (if ¬(y14_7 = true) then (some (.ret false)) else (if (rd a1.Stock x7_5).Inst ≥ (a0.Insts.length : Int) then (some (.ret false)) else (novationref15_RightBook.l1 a0 a1 k5 (IntKind.i64.wrap (x7_5 + 1)))))) else none) else (some (.out x7_5)))
def novationref15_RightBook.l2 (a1 : api_Book) : Nat → Int → Option (Flow Int Bool)
  | 0, _ => none
  | k8 + 1, x8_8 => (if x8_8 < (a1.Prices.length : Int) then (if 0 ≤ x8_8 ∧ x8_8 < (a1.Prices.length : Int) then ((novationref15_price.f (rd a1.Prices x8_8)).bind fun y19_5 => (if ¬(y19_5 = true) then (some (.ret false)) else (novationref15_RightBook.l2 a1 k8 (IntKind.i64.wrap (x8_8 + 1))))) else none) else (some (.out x8_8)))
def novationref15_RightBook.l3 (a0 : api_Config) (a1 : api_Book) : Nat → Int → Option (Flow Int Bool)
  | 0, _ => none
  | k11 + 1, x9_11 => (if x9_11 < (a1.Orders.length : Int) then (if 0 ≤ x9_11 ∧ x9_11 < (a1.Orders.length : Int) then ((novationref15_there.f a1 (rd a1.Orders x9_11).Acc).bind fun y24_7 => (if ¬(y24_7 = true) then (some (.ret false)) else (if (rd a1.Orders x9_11).Inst ≥ (a0.Insts.length : Int) then (some (.ret false)) else (novationref15_RightBook.l3 a0 a1 k11 (IntKind.i64.wrap (x9_11 + 1)))))) else none) else (some (.out x9_11)))
def novationref15_RightBook.f (a0 : api_Config) (a1 : api_Book) : Option Bool := ((novationref4_RightPlan.f a0).bind fun y1_1 => (if ¬(y1_1 = true) then (some false) else ((novationref10_RightRoll.f a1.Members a1.Accs).bind fun y1_8 => (if ¬(y1_8 = true) then (some false) else ((novationref10_Rows.f a1.Rows).bind fun y1_14 => (if ¬(y1_14 = true) then (some false) else ((novationref10_Flat.f a1.Stock).bind fun y1_20 => (if ¬(y1_20 = true) then (some false) else ((novationref15_Orders.f a1.Orders).bind fun y1_26 => (if ¬(y1_26 = true) then (some false) else (if ¬((a1.Prices.length : Int) = (a0.Insts.length : Int)) then (some false) else ((novationref10_Total.f a1.Rows).bind fun y3_2 => ((novationref1_Sign.f y3_2).bind fun y3_3 => (if ¬(y3_3 = 0) then (some false) else ((novationref15_RightBook.l0 a1 FUEL 0).bind fun f2 => f2.go fun s2 => ((novationref15_RightBook.l1 a0 a1 FUEL 0).bind fun f5 => f5.go fun s5 => ((novationref15_RightBook.l2 a1 FUEL 0).bind fun f8 => f8.go fun s8 => ((novationref15_RightBook.l3 a0 a1 FUEL 0).bind fun f11 => f11.go fun s11 => (some true)))))))))))))))))))

def novationref20_member.f (a0 : api_Book) (a1 : Int) : Option Int := ((novationref10_Status.f a0.Members a1).bind fun y1_3 => (some y1_3))

def novationref10_Of.l0 (a0 : List api_Pos) (a1 : Int) : Nat → List api_Leg → Int → Option ((List api_Leg) × Int)
  | 0, _, _ => none
  | k1 + 1, x5_1, x6_1 => (if x6_1 < (a0.length : Int) then (if 0 ≤ x6_1 ∧ x6_1 < (a0.length : Int) then (if (rd a0 x6_1).Acc = a1 then (if x5_1.length + 1 ≤ 100000000000 then (novationref10_Of.l0 a0 a1 k1 (x5_1 ++ ([(⟨(rd a0 x6_1).Inst, (rd a0 x6_1).Q⟩ : api_Leg)])) (IntKind.i64.wrap (x6_1 + 1))) else none) else (novationref10_Of.l0 a0 a1 k1 x5_1 (IntKind.i64.wrap (x6_1 + 1)))) else none) else (some (x5_1, x6_1)))
def novationref10_Of.f (a0 : List api_Pos) (a1 : Int) : Option ((List api_Leg)) := ((novationref10_Stock.f a0).bind fun y2_1 => (if ¬(y2_1 = true) then (some ([] : List api_Leg)) else ((novationref10_Of.l0 a0 a1 FUEL ([] : List api_Leg) 0).bind fun s1 => (some s1.1))))

def novationref10_Legs.l0 (a0 : api_Config) (a1 : List api_Leg) : Nat → Int → Option (Flow Int Bool)
  | 0, _ => none
  | k1 + 1, x5_1 => (if x5_1 < (a1.length : Int) then (if 0 ≤ x5_1 ∧ x5_1 < (a1.length : Int) then (if (rd a1 x5_1).Inst < 0 then (some (.ret false)) else (if (rd a1 x5_1).Inst ≥ (a0.Insts.length : Int) then (some (.ret false)) else (if (rd a1 x5_1).Q = 0 then (some (.ret false)) else (if (rd a1 x5_1).Q = (-9223372036854775808) then (some (.ret false)) else (if x5_1 > 0 then (if 0 ≤ IntKind.i64.wrap (x5_1 - 1) ∧ IntKind.i64.wrap (x5_1 - 1) < (a1.length : Int) then (if (rd a1 x5_1).Inst ≤ (rd a1 (IntKind.i64.wrap (x5_1 - 1))).Inst then (some (.ret false)) else (novationref10_Legs.l0 a0 a1 k1 (IntKind.i64.wrap (x5_1 + 1)))) else none) else (novationref10_Legs.l0 a0 a1 k1 (IntKind.i64.wrap (x5_1 + 1)))))))) else none) else (some (.out x5_1)))
def novationref10_Legs.f (a0 : api_Config) (a1 : List api_Leg) : Option Bool := ((novationref4_RightPlan.f a0).bind fun y1_1 => (if ¬(y1_1 = true) then (some false) else ((novationref10_Legs.l0 a0 a1 FUEL 0).bind fun f1 => f1.go fun s1 => (some true))))

def novationref10_byRate.l0 (a0 : api_Config) (a1 : List api_Leg) (a2 : Bool) : Nat → Int → Int → Option (Int × Int)
  | 0, _, _ => none
  | k1 + 1, x8_1, x9_1 => (if x9_1 < (a1.length : Int) then (if 0 ≤ x9_1 ∧ x9_1 < (a1.length : Int) then (if 0 ≤ (rd a1 x9_1).Inst ∧ (rd a1 x9_1).Inst < (a0.Insts.length : Int) then (if a2 = true then ((novationref1_Whole.f (rd a1 x9_1).Q).bind fun y10_6 => ((novationref1_Sized.f y10_6).bind fun y10_7 => ((novationref1_Whole.f (rd a0.Insts (rd a1 x9_1).Inst).Slip).bind fun y10_9 => ((novationref1_Times.f y10_7 y10_9).bind fun y10_10 => ((novationref1_Plus.f x8_1 y10_10).bind fun y10_11 => (novationref10_byRate.l0 a0 a1 a2 k1 y10_11 (IntKind.i64.wrap (x9_1 + 1)))))))) else ((novationref1_Whole.f (rd a1 x9_1).Q).bind fun y10_6 => ((novationref1_Sized.f y10_6).bind fun y10_7 => ((novationref1_Whole.f (rd a0.Insts (rd a1 x9_1).Inst).Rate).bind fun y10_9 => ((novationref1_Times.f y10_7 y10_9).bind fun y10_10 => ((novationref1_Plus.f x8_1 y10_10).bind fun y10_11 => (novationref10_byRate.l0 a0 a1 a2 k1 y10_11 (IntKind.i64.wrap (x9_1 + 1))))))))) else none) else none) else (some (x8_1, x9_1)))
def novationref10_byRate.f (a0 : api_Config) (a1 : List api_Leg) (a2 : Bool) : Option (Int × Int) := ((novationref10_Legs.f a0 a1).bind fun y2_2 => (if ¬(y2_2 = true) then (some (0, 1)) else ((novationref10_byRate.l0 a0 a1 a2 FUEL 0 0).bind fun s1 => (some (s1.1, 0)))))

def novationref10_NeedOf.f (a0 : api_Config) (a1 : List api_Leg) : Option (Int × Int) := ((novationref10_byRate.f a0 a1 false).bind fun y1_2 => (some (y1_2.1, y1_2.2)))

def novationref10_Get.l0 (a0 : List api_Row) (a1 : Int) (a2 : Int) : Nat → Int → Option (Flow Int Int)
  | 0, _ => none
  | k1 + 1, x7_1 => (if x7_1 < (a0.length : Int) then (if 0 ≤ x7_1 ∧ x7_1 < (a0.length : Int) then (if (rd a0 x7_1).Kind = a1 then (if (rd a0 x7_1).N = a2 then (some (.ret (rd a0 x7_1).Sum)) else (novationref10_Get.l0 a0 a1 a2 k1 (IntKind.i64.wrap (x7_1 + 1)))) else (novationref10_Get.l0 a0 a1 a2 k1 (IntKind.i64.wrap (x7_1 + 1)))) else none) else (some (.out x7_1)))
def novationref10_Get.f (a0 : List api_Row) (a1 : Int) (a2 : Int) : Option Int := ((novationref10_Rows.f a0).bind fun y1_1 => (if ¬(y1_1 = true) then (some 0) else ((novationref10_Get.l0 a0 a1 a2 FUEL 0).bind fun f1 => f1.go fun s1 => (some 0))))

def novationref20_margin.f (a0 : api_Book) (a1 : Int) : Option Int := ((novationref10_Get.f a0.Rows 5 a1).bind fun y1_3 => (some y1_3))

def novationref20_May.f (a0 : api_Config) (a1 : api_Book) (a2 : Int) (a3 : Int) (a4 : Int) : Option Int := ((novationref15_RightBook.f a0 a1).bind fun y1_2 => (if ¬(y1_2 = true) then (some 1) else ((novationref10_Find.f a1.Accs a4).bind fun y3_3 => (if ¬(y3_3.2 = true) then (some 3) else ((novationref20_member.f a1 a2).bind fun y4_5 => (if y4_5 = 0 then (some 3) else ((novationref20_member.f a1 a3).bind fun y4_11 => (if y4_11 = 0 then (some 3) else (if ¬(y3_3.1.Member = a2) then (some 8) else (if ¬(y3_3.1.Kind = 2) then (some 8) else ((novationref20_member.f a1 a3).bind fun y8_2 => (if ¬(y8_2 = 1) then (some 7) else ((novationref10_Of.f a1.Stock a4).bind fun y10_4 => ((novationref10_NeedOf.f a0 y10_4).bind fun y10_5 => ((novationref20_margin.f a1 a4).bind fun y11_2 => ((novationref1_Whole.f y11_2).bind fun y11_3 => ((novationref1_Cmp.f y11_3 y10_5.1).bind fun y11_5 => (if y11_5 < 0 then (some 10) else (some 0)))))))))))))))))))

def novationref10_PortAcc.l0 (a2 : Int) (a3 : Int) : Nat → List api_Acc → Int → Option ((List api_Acc) × Int)
  | 0, _, _ => none
  | k4 + 1, x13_4, x14_4 => (if x14_4 < (x13_4.length : Int) then (if 0 ≤ x14_4 ∧ x14_4 < (x13_4.length : Int) then (if (rd x13_4 x14_4).Id = a2 then (novationref10_PortAcc.l0 a2 a3 k4 (x13_4.set x14_4.toNat ({ (rd x13_4 x14_4) with Member := a3 } : api_Acc)) (IntKind.i64.wrap (x14_4 + 1))) else (novationref10_PortAcc.l0 a2 a3 k4 x13_4 (IntKind.i64.wrap (x14_4 + 1)))) else none) else (some (x13_4, x14_4)))
def novationref10_PortAcc.f (a0 : List api_Member) (a1 : List api_Acc) (a2 : Int) (a3 : Int) : Option ((List api_Acc) × Int) := ((novationref10_RightRoll.f a0 a1).bind fun y1_2 => (if ¬(y1_2 = true) then (some (([] : List api_Acc), 1)) else ((novationref10_find.f a1 a2).bind fun y3_2 => ((novationref10_status.f a0 a3).bind fun y4_2 => (if ¬(y3_2.2 = true) then (some (([] : List api_Acc), 3)) else (if y4_2 = 0 then (some (([] : List api_Acc), 3)) else (if ¬(y3_2.1.Kind = 2) then (some (([] : List api_Acc), 8)) else (if ¬(y4_2 = 1) then (some (([] : List api_Acc), 7)) else (if a1.length ≤ 100000000000 then ((novationref10_PortAcc.l0 a2 a3 FUEL a1 0).bind fun s4 => (some (s4.1, 0))) else none)))))))))

def novationref20_Port.f (a0 : api_Config) (a1 : api_Book) (a2 : Int) (a3 : Int) (a4 : Int) : Option (api_Book × Int) := ((novationref20_May.f a0 a1 a2 a3 a4).bind fun y1_5 => (if ¬(y1_5 = 0) then (some ((⟨([] : List api_Member), ([] : List api_Acc), ([] : List api_Row), ([] : List api_Pos), ([] : List Int), ([] : List api_Order)⟩ : api_Book), y1_5)) else ((novationref10_PortAcc.f a1.Members a1.Accs a4 a3).bind fun y4_6 => (if ¬(y4_6.2 = 0) then (some ((⟨([] : List api_Member), ([] : List api_Acc), ([] : List api_Row), ([] : List api_Pos), ([] : List Int), ([] : List api_Order)⟩ : api_Book), y4_6.2)) else (some (({ a1 with Accs := y4_6.1 } : api_Book), 0))))))

def novationref20_Stay.l0 (a1 : api_Book) (a2 : Int) : Nat → List Int → Int → Option ((List Int) × Int)
  | 0, _, _ => none
  | k2 + 1, x8_2, x9_2 => (if x9_2 < (a1.Accs.length : Int) then (if 0 ≤ x9_2 ∧ x9_2 < (a1.Accs.length : Int) then (if (rd a1.Accs x9_2).Member = a2 then (if (rd a1.Accs x9_2).Kind = 2 then (if x8_2.length + 1 ≤ 100000000000 then (novationref20_Stay.l0 a1 a2 k2 (x8_2 ++ ([(rd a1.Accs x9_2).Id])) (IntKind.i64.wrap (x9_2 + 1))) else none) else (novationref20_Stay.l0 a1 a2 k2 x8_2 (IntKind.i64.wrap (x9_2 + 1)))) else (novationref20_Stay.l0 a1 a2 k2 x8_2 (IntKind.i64.wrap (x9_2 + 1)))) else none) else (some (x8_2, x9_2)))
def novationref20_Stay.f (a0 : api_Config) (a1 : api_Book) (a2 : Int) : Option ((List Int) × Int) := ((novationref15_RightBook.f a0 a1).bind fun y1_2 => (if ¬(y1_2 = true) then (some (([] : List Int), 1)) else ((novationref20_member.f a1 a2).bind fun y3_2 => (if y3_2 = 0 then (some (([] : List Int), 3)) else ((novationref20_Stay.l0 a1 a2 FUEL ([] : List Int) 0).bind fun s2 => (some (s2.1, 0)))))))

def novationhelp_Members.l0 (a0 : List api_Member) (a1 : List api_Member) : Nat → Int → Option (Flow Int Bool)
  | 0, _ => none
  | k1 + 1, x5_1 => (if x5_1 < (a0.length : Int) then (if 0 ≤ x5_1 ∧ x5_1 < (a0.length : Int) then (if 0 ≤ x5_1 ∧ x5_1 < (a1.length : Int) then (if ¬(((rd a0 x5_1).Id == (rd a1 x5_1).Id && (rd a0 x5_1).Status == (rd a1 x5_1).Status) = true) then (some (.ret false)) else (novationhelp_Members.l0 a0 a1 k1 (IntKind.i64.wrap (x5_1 + 1)))) else none) else none) else (some (.out x5_1)))
def novationhelp_Members.f (a0 : List api_Member) (a1 : List api_Member) : Option Bool := (if ¬((a0.length : Int) = (a1.length : Int)) then (some false) else ((novationhelp_Members.l0 a0 a1 FUEL 0).bind fun f1 => f1.go fun s1 => (some true)))

def novationhelp_Accs.l0 (a0 : List api_Acc) (a1 : List api_Acc) : Nat → Int → Option (Flow Int Bool)
  | 0, _ => none
  | k1 + 1, x5_1 => (if x5_1 < (a0.length : Int) then (if 0 ≤ x5_1 ∧ x5_1 < (a0.length : Int) then (if 0 ≤ x5_1 ∧ x5_1 < (a1.length : Int) then (if ¬(((rd a0 x5_1).Id == (rd a1 x5_1).Id && ((rd a0 x5_1).Member == (rd a1 x5_1).Member && ((rd a0 x5_1).Kind == (rd a1 x5_1).Kind && (rd a0 x5_1).Limit == (rd a1 x5_1).Limit))) = true) then (some (.ret false)) else (novationhelp_Accs.l0 a0 a1 k1 (IntKind.i64.wrap (x5_1 + 1)))) else none) else none) else (some (.out x5_1)))
def novationhelp_Accs.f (a0 : List api_Acc) (a1 : List api_Acc) : Option Bool := (if ¬((a0.length : Int) = (a1.length : Int)) then (some false) else ((novationhelp_Accs.l0 a0 a1 FUEL 0).bind fun f1 => f1.go fun s1 => (some true)))

def novationhelp_Rows.l0 (a0 : List api_Row) (a1 : List api_Row) : Nat → Int → Option (Flow Int Bool)
  | 0, _ => none
  | k1 + 1, x5_1 => (if x5_1 < (a0.length : Int) then (if 0 ≤ x5_1 ∧ x5_1 < (a0.length : Int) then (if 0 ≤ x5_1 ∧ x5_1 < (a1.length : Int) then (if ¬(((rd a0 x5_1).Kind == (rd a1 x5_1).Kind && ((rd a0 x5_1).N == (rd a1 x5_1).N && (rd a0 x5_1).Sum == (rd a1 x5_1).Sum)) = true) then (some (.ret false)) else (novationhelp_Rows.l0 a0 a1 k1 (IntKind.i64.wrap (x5_1 + 1)))) else none) else none) else (some (.out x5_1)))
def novationhelp_Rows.f (a0 : List api_Row) (a1 : List api_Row) : Option Bool := (if ¬((a0.length : Int) = (a1.length : Int)) then (some false) else ((novationhelp_Rows.l0 a0 a1 FUEL 0).bind fun f1 => f1.go fun s1 => (some true)))

def novationhelp_Stock.l0 (a0 : List api_Pos) (a1 : List api_Pos) : Nat → Int → Option (Flow Int Bool)
  | 0, _ => none
  | k1 + 1, x5_1 => (if x5_1 < (a0.length : Int) then (if 0 ≤ x5_1 ∧ x5_1 < (a0.length : Int) then (if 0 ≤ x5_1 ∧ x5_1 < (a1.length : Int) then (if ¬(((rd a0 x5_1).Acc == (rd a1 x5_1).Acc && ((rd a0 x5_1).Inst == (rd a1 x5_1).Inst && (rd a0 x5_1).Q == (rd a1 x5_1).Q)) = true) then (some (.ret false)) else (novationhelp_Stock.l0 a0 a1 k1 (IntKind.i64.wrap (x5_1 + 1)))) else none) else none) else (some (.out x5_1)))
def novationhelp_Stock.f (a0 : List api_Pos) (a1 : List api_Pos) : Option Bool := (if ¬((a0.length : Int) = (a1.length : Int)) then (some false) else ((novationhelp_Stock.l0 a0 a1 FUEL 0).bind fun f1 => f1.go fun s1 => (some true)))

def novationhelp_Ints.l0 (a0 : List Int) (a1 : List Int) : Nat → Int → Option (Flow Int Bool)
  | 0, _ => none
  | k1 + 1, x5_1 => (if x5_1 < (a0.length : Int) then (if 0 ≤ x5_1 ∧ x5_1 < (a0.length : Int) then (if 0 ≤ x5_1 ∧ x5_1 < (a1.length : Int) then (if ¬((rd a0 x5_1) = (rd a1 x5_1)) then (some (.ret false)) else (novationhelp_Ints.l0 a0 a1 k1 (IntKind.i64.wrap (x5_1 + 1)))) else none) else none) else (some (.out x5_1)))
def novationhelp_Ints.f (a0 : List Int) (a1 : List Int) : Option Bool := (if ¬((a0.length : Int) = (a1.length : Int)) then (some false) else ((novationhelp_Ints.l0 a0 a1 FUEL 0).bind fun f1 => f1.go fun s1 => (some true)))

def novationhelp_Orders.l0 (a0 : List api_Order) (a1 : List api_Order) : Nat → Int → Option (Flow Int Bool)
  | 0, _ => none
  | k1 + 1, x5_1 => (if x5_1 < (a0.length : Int) then (if 0 ≤ x5_1 ∧ x5_1 < (a0.length : Int) then (if 0 ≤ x5_1 ∧ x5_1 < (a1.length : Int) then (if ¬(((rd a0 x5_1).Id == (rd a1 x5_1).Id && ((rd a0 x5_1).Acc == (rd a1 x5_1).Acc && ((rd a0 x5_1).Inst == (rd a1 x5_1).Inst && ((rd a0 x5_1).Side == (rd a1 x5_1).Side && ((rd a0 x5_1).Q == (rd a1 x5_1).Q && (rd a0 x5_1).P == (rd a1 x5_1).P))))) = true) then (some (.ret false)) else (novationhelp_Orders.l0 a0 a1 k1 (IntKind.i64.wrap (x5_1 + 1)))) else none) else none) else (some (.out x5_1)))
def novationhelp_Orders.f (a0 : List api_Order) (a1 : List api_Order) : Option Bool := (if ¬((a0.length : Int) = (a1.length : Int)) then (some false) else ((novationhelp_Orders.l0 a0 a1 FUEL 0).bind fun f1 => f1.go fun s1 => (some true)))

def novationhelp_Book.f (a0 : api_Book) (a1 : api_Book) : Option Bool := ((novationhelp_Members.f a0.Members a1.Members).bind fun y1_4 => (if y1_4 = true then ((novationhelp_Accs.f a0.Accs a1.Accs).bind fun y1_10 => (if y1_10 = true then ((novationhelp_Rows.f a0.Rows a1.Rows).bind fun y1_17 => (if y1_17 = true then ((novationhelp_Stock.f a0.Stock a1.Stock).bind fun y1_24 => (if y1_24 = true then ((novationhelp_Ints.f a0.Prices a1.Prices).bind fun y1_31 => (if y1_31 = true then ((novationhelp_Orders.f a0.Orders a1.Orders).bind fun y1_38 => (some y1_38)) else (some false))) else (some false))) else (some false))) else (some false))) else (some false)))

def novationlaw20_told.f (a0 : api_Config) (a1 : api_Book) (a2 : Int) (a3 : Int) (a4 : Int) : Option Bool := ((port_Port.f a0 a1 a2 a3 a4).bind fun y1_5 => ((novationref20_Port.f a0 a1 a2 a3 a4).bind fun y2_5 => ((port_Stay.f a0 a1 a2).bind fun y3_3 => ((novationref20_Stay.f a0 a1 a2).bind fun y4_3 => (if y1_5.2 = y2_5.2 then (if y3_3.2 = y4_3.2 then ((novationhelp_Book.f y1_5.1 y2_5.1).bind fun y5_11 => (if y5_11 = true then ((novationhelp_Nums.f y3_3.1 y4_3.1).bind fun y5_16 => (if y5_16 = true then ((port_May.f a0 a1 a2 a3 a4).bind fun y5_24 => ((novationref20_May.f a0 a1 a2 a3 a4).bind fun y5_30 => (some (y5_24 == y5_30)))) else (some false))) else (some false))) else (some false)) else (some false))))))

def novationlaw20_PortAll.f (a0 : api_Config) (a1 : api_Book) (a2 : Int) (a3 : Int) (a4 : Int) : Option Bool := ((novationlaw20_known.f).bind fun y1_0 => (if ¬(y1_0 = true) then (some false) else (if (a0.Insts.length : Int) > 10 then (some true) else (if (a1.Members.length : Int) > 16 then (some true) else (if (a1.Accs.length : Int) > 30 then (some true) else (if (a1.Rows.length : Int) > 60 then (some true) else (if (a1.Stock.length : Int) > 60 then (some true) else (if (a1.Prices.length : Int) > 10 then (some true) else (if (a1.Orders.length : Int) > 40 then (some true) else ((novationlaw20_told.f a0 a1 a2 a3 a4).bind fun y5_5 => (some y5_5)))))))))))

end Go.Ax
