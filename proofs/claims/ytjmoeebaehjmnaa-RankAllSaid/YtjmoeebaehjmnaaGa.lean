/- The types of the program. -/
import Derived.Test.YtjmoeebaehjmnaaGen
import Derived.Test.YtjmoeebaehjmnaaSd4
set_option linter.unusedVariables false
set_option linter.unusedSimpArgs false
set_option linter.unusedVariables false
namespace Go.Ax
open Go
structure api_Inst where
  Bucket : Int
  Price : Int
  Rate : Int
  Slip : Int
deriving DecidableEq
instance : Inhabited api_Inst := ⟨⟨0, 0, 0, 0⟩⟩
def api_Inst.D (x : api_Inst) : List D := [.v (.int .i64 x.Bucket), .v (.int .i64 x.Price), .v (.int .i64 x.Rate), .v (.int .i64 x.Slip)]
attribute [go_sem] api_Inst.D
structure api_Config where
  Insts : List api_Inst
  Skin : Int
  Times : Int
  Port : Int
  Bid : Int
  LotSize : Int
  HedgeMin : Int
deriving DecidableEq
instance : Inhabited api_Config := ⟨⟨[], 0, 0, 0, 0, 0, 0⟩⟩
def api_Config.D (x : api_Config) : List D := [.l (rowsD api_Inst.D x.Insts), .v (.int .i64 x.Skin), .v (.int .i64 x.Times), .v (.int .i64 x.Port), .v (.int .i64 x.Bid), .v (.int .i64 x.LotSize), .v (.int .i64 x.HedgeMin)]
attribute [go_sem] api_Config.D
structure api_Member where
  Id : Int
  Status : Int
deriving DecidableEq
instance : Inhabited api_Member := ⟨⟨0, 0⟩⟩
def api_Member.D (x : api_Member) : List D := [.v (.int .i64 x.Id), .v (.int .i64 x.Status)]
attribute [go_sem] api_Member.D
structure api_Acc where
  Id : Int
  Member : Int
  Kind : Int
  Limit : Int
deriving DecidableEq
instance : Inhabited api_Acc := ⟨⟨0, 0, 0, 0⟩⟩
def api_Acc.D (x : api_Acc) : List D := [.v (.int .i64 x.Id), .v (.int .i64 x.Member), .v (.int .i64 x.Kind), .v (.int .i64 x.Limit)]
attribute [go_sem] api_Acc.D
structure api_Row where
  Kind : Int
  N : Int
  Sum : Int
deriving DecidableEq
instance : Inhabited api_Row := ⟨⟨0, 0, 0⟩⟩
def api_Row.D (x : api_Row) : List D := [.v (.int .i64 x.Kind), .v (.int .i64 x.N), .v (.int .i64 x.Sum)]
attribute [go_sem] api_Row.D
structure api_Pos where
  Acc : Int
  Inst : Int
  Q : Int
deriving DecidableEq
instance : Inhabited api_Pos := ⟨⟨0, 0, 0⟩⟩
def api_Pos.D (x : api_Pos) : List D := [.v (.int .i64 x.Acc), .v (.int .i64 x.Inst), .v (.int .i64 x.Q)]
attribute [go_sem] api_Pos.D
structure api_Order where
  Id : Int
  Acc : Int
  Inst : Int
  Side : Int
  Q : Int
  P : Int
deriving DecidableEq
instance : Inhabited api_Order := ⟨⟨0, 0, 0, 0, 0, 0⟩⟩
def api_Order.D (x : api_Order) : List D := [.v (.int .i64 x.Id), .v (.int .i64 x.Acc), .v (.int .i64 x.Inst), .v (.int .i64 x.Side), .v (.int .i64 x.Q), .v (.int .i64 x.P)]
attribute [go_sem] api_Order.D
structure api_Book where
  Members : List api_Member
  Accs : List api_Acc
  Rows : List api_Row
  Stock : List api_Pos
  Prices : List Int
  Orders : List api_Order
deriving DecidableEq
instance : Inhabited api_Book := ⟨⟨[], [], [], [], [], []⟩⟩
def api_Book.D (x : api_Book) : List D := [.l (rowsD api_Member.D x.Members), .l (rowsD api_Acc.D x.Accs), .l (rowsD api_Row.D x.Rows), .l (rowsD api_Pos.D x.Stock), .l (rowsD i64D x.Prices), .l (rowsD api_Order.D x.Orders)]
attribute [go_sem] api_Book.D
structure api_Leg where
  Inst : Int
  Q : Int
deriving DecidableEq
instance : Inhabited api_Leg := ⟨⟨0, 0⟩⟩
def api_Leg.D (x : api_Leg) : List D := [.v (.int .i64 x.Inst), .v (.int .i64 x.Q)]
attribute [go_sem] api_Leg.D
structure api_Lot where
  Id : Int
  Legs : List api_Leg
  Ref : Int
  State : Int
  Winner : Int
  Price : Int
deriving DecidableEq
instance : Inhabited api_Lot := ⟨⟨0, [], 0, 0, 0, 0⟩⟩
def api_Lot.D (x : api_Lot) : List D := [.v (.int .i64 x.Id), .l (rowsD api_Leg.D x.Legs), .v (.int .i64 x.Ref), .v (.int .i64 x.State), .v (.int .i64 x.Winner), .v (.int .i64 x.Price)]
attribute [go_sem] api_Lot.D
structure api_Bid where
  Seq : Int
  Lot : Int
  Member : Int
  Price : Int
deriving DecidableEq
instance : Inhabited api_Bid := ⟨⟨0, 0, 0, 0⟩⟩
def api_Bid.D (x : api_Bid) : List D := [.v (.int .i64 x.Seq), .v (.int .i64 x.Lot), .v (.int .i64 x.Member), .v (.int .i64 x.Price)]
attribute [go_sem] api_Bid.D
structure api_Deed where
  Member : Int
  Class : Int
deriving DecidableEq
instance : Inhabited api_Deed := ⟨⟨0, 0⟩⟩
def api_Deed.D (x : api_Deed) : List D := [.v (.int .i64 x.Member), .v (.int .i64 x.Class)]
attribute [go_sem] api_Deed.D

@[go_sem] theorem api_Inst_rd (l : List api_Inst) (i : Int) : (rowsD api_Inst.D l).getD i.toNat [.v (.int .i64 0), .v (.int .i64 0), .v (.int .i64 0), .v (.int .i64 0)] = api_Inst.D (rd l i) := getD_rowsD api_Inst.D l i
@[go_sem] theorem api_Inst_len (l : List api_Inst) : (∀ r ∈ rowsD api_Inst.D l, r.length = 4) = True := rowsD_len api_Inst.D (fun _ => rfl) l
@[go_sem] theorem api_Config_rd (l : List api_Config) (i : Int) : (rowsD api_Config.D l).getD i.toNat [.l [], .v (.int .i64 0), .v (.int .i64 0), .v (.int .i64 0), .v (.int .i64 0), .v (.int .i64 0), .v (.int .i64 0)] = api_Config.D (rd l i) := getD_rowsD api_Config.D l i
@[go_sem] theorem api_Config_len (l : List api_Config) : (∀ r ∈ rowsD api_Config.D l, r.length = 7) = True := rowsD_len api_Config.D (fun _ => rfl) l
@[go_sem] theorem api_Member_rd (l : List api_Member) (i : Int) : (rowsD api_Member.D l).getD i.toNat [.v (.int .i64 0), .v (.int .i64 0)] = api_Member.D (rd l i) := getD_rowsD api_Member.D l i
@[go_sem] theorem api_Member_len (l : List api_Member) : (∀ r ∈ rowsD api_Member.D l, r.length = 2) = True := rowsD_len api_Member.D (fun _ => rfl) l
@[go_sem] theorem api_Acc_rd (l : List api_Acc) (i : Int) : (rowsD api_Acc.D l).getD i.toNat [.v (.int .i64 0), .v (.int .i64 0), .v (.int .i64 0), .v (.int .i64 0)] = api_Acc.D (rd l i) := getD_rowsD api_Acc.D l i
@[go_sem] theorem api_Acc_len (l : List api_Acc) : (∀ r ∈ rowsD api_Acc.D l, r.length = 4) = True := rowsD_len api_Acc.D (fun _ => rfl) l
@[go_sem] theorem api_Row_rd (l : List api_Row) (i : Int) : (rowsD api_Row.D l).getD i.toNat [.v (.int .i64 0), .v (.int .i64 0), .v (.int .i64 0)] = api_Row.D (rd l i) := getD_rowsD api_Row.D l i
@[go_sem] theorem api_Row_len (l : List api_Row) : (∀ r ∈ rowsD api_Row.D l, r.length = 3) = True := rowsD_len api_Row.D (fun _ => rfl) l
@[go_sem] theorem api_Pos_rd (l : List api_Pos) (i : Int) : (rowsD api_Pos.D l).getD i.toNat [.v (.int .i64 0), .v (.int .i64 0), .v (.int .i64 0)] = api_Pos.D (rd l i) := getD_rowsD api_Pos.D l i
@[go_sem] theorem api_Pos_len (l : List api_Pos) : (∀ r ∈ rowsD api_Pos.D l, r.length = 3) = True := rowsD_len api_Pos.D (fun _ => rfl) l
@[go_sem] theorem api_Order_rd (l : List api_Order) (i : Int) : (rowsD api_Order.D l).getD i.toNat [.v (.int .i64 0), .v (.int .i64 0), .v (.int .i64 0), .v (.int .i64 0), .v (.int .i64 0), .v (.int .i64 0)] = api_Order.D (rd l i) := getD_rowsD api_Order.D l i
@[go_sem] theorem api_Order_len (l : List api_Order) : (∀ r ∈ rowsD api_Order.D l, r.length = 6) = True := rowsD_len api_Order.D (fun _ => rfl) l
@[go_sem] theorem api_Book_rd (l : List api_Book) (i : Int) : (rowsD api_Book.D l).getD i.toNat [.l [], .l [], .l [], .l [], .l [], .l []] = api_Book.D (rd l i) := getD_rowsD api_Book.D l i
@[go_sem] theorem api_Book_len (l : List api_Book) : (∀ r ∈ rowsD api_Book.D l, r.length = 6) = True := rowsD_len api_Book.D (fun _ => rfl) l
@[go_sem] theorem api_Leg_rd (l : List api_Leg) (i : Int) : (rowsD api_Leg.D l).getD i.toNat [.v (.int .i64 0), .v (.int .i64 0)] = api_Leg.D (rd l i) := getD_rowsD api_Leg.D l i
@[go_sem] theorem api_Leg_len (l : List api_Leg) : (∀ r ∈ rowsD api_Leg.D l, r.length = 2) = True := rowsD_len api_Leg.D (fun _ => rfl) l
@[go_sem] theorem api_Lot_rd (l : List api_Lot) (i : Int) : (rowsD api_Lot.D l).getD i.toNat [.v (.int .i64 0), .l [], .v (.int .i64 0), .v (.int .i64 0), .v (.int .i64 0), .v (.int .i64 0)] = api_Lot.D (rd l i) := getD_rowsD api_Lot.D l i
@[go_sem] theorem api_Lot_len (l : List api_Lot) : (∀ r ∈ rowsD api_Lot.D l, r.length = 6) = True := rowsD_len api_Lot.D (fun _ => rfl) l
@[go_sem] theorem api_Bid_rd (l : List api_Bid) (i : Int) : (rowsD api_Bid.D l).getD i.toNat [.v (.int .i64 0), .v (.int .i64 0), .v (.int .i64 0), .v (.int .i64 0)] = api_Bid.D (rd l i) := getD_rowsD api_Bid.D l i
@[go_sem] theorem api_Bid_len (l : List api_Bid) : (∀ r ∈ rowsD api_Bid.D l, r.length = 4) = True := rowsD_len api_Bid.D (fun _ => rfl) l
@[go_sem] theorem api_Deed_rd (l : List api_Deed) (i : Int) : (rowsD api_Deed.D l).getD i.toNat [.v (.int .i64 0), .v (.int .i64 0)] = api_Deed.D (rd l i) := getD_rowsD api_Deed.D l i
@[go_sem] theorem api_Deed_len (l : List api_Deed) : (∀ r ∈ rowsD api_Deed.D l, r.length = 2) = True := rowsD_len api_Deed.D (fun _ => rfl) l
@[go_sem] theorem i64D_rd (l : List Int) (i : Int) : (rowsD i64D l).getD i.toNat [.v (.int .i64 0)] = i64D (rd l i) := getD_rowsD i64D l i
@[go_sem] theorem i64D_len (l : List Int) : (∀ r ∈ rowsD i64D l, r.length = 1) = True := rowsD_len i64D (fun _ => rfl) l
@[go_sem] theorem boolD_rd (l : List Bool) (i : Int) : (rowsD boolD l).getD i.toNat [.v (.bool false)] = boolD (rd l i) := getD_rowsD boolD l i
@[go_sem] theorem boolD_len (l : List Bool) : (∀ r ∈ rowsD boolD l, r.length = 1) = True := rowsD_len boolD (fun _ => rfl) l
@[go_sem] theorem wD_rd (l : List Int) (i : Int) : (rowsD wD l).getD i.toNat [.v (.int .i64 0), .v (.int .u64 0)] = wD (rd l i) := getD_rowsD wD l i
@[go_sem] theorem wD_len (l : List Int) : (∀ r ∈ rowsD wD l, r.length = 2) = True := rowsD_len wD (fun _ => rfl) l
@[go_sem] theorem bigDs_rd (l : List Int) (i : Int) : (rowsD bigDs l).getD i.toNat [.v (.bool false), .l []] = bigDs (rd l i) := by
  have e : bigDs (default : Int) = [.v (.bool false), .l []] := by show bigDs 0 = _; simp [bigDs, digs_zero, rowsU]
  rw [← e]; exact getD_rowsD bigDs l i
@[go_sem] theorem bigDs_len (l : List Int) : (∀ r ∈ rowsD bigDs l, r.length = 2) = True := rowsD_len bigDs (fun _ => rfl) l
attribute [go_sem] i64D boolD wD
@[simp] theorem wHi_z : wHi 0 = 0 := by decide
@[simp] theorem wLo_z : wLo 0 = 0 := by decide
@[go_sem] theorem digs_z : digs (Int.natAbs 0) = [] := digs_zero
@[go_sem] theorem rowsU_z : rowsU [] = [] := congrArg id rfl
def api_Inst.ok (x : api_Inst) : Prop := I64 x.Bucket ∧ I64 x.Price ∧ I64 x.Rate ∧ I64 x.Slip
def api_Config.ok (x : api_Config) : Prop := ((∀ y ∈ x.Insts, api_Inst.ok y) ∧ x.Insts.length < 281474976710656) ∧ I64 x.Skin ∧ I64 x.Times ∧ I64 x.Port ∧ I64 x.Bid ∧ I64 x.LotSize ∧ I64 x.HedgeMin
def api_Member.ok (x : api_Member) : Prop := I64 x.Id ∧ I64 x.Status
def api_Acc.ok (x : api_Acc) : Prop := I64 x.Id ∧ I64 x.Member ∧ I64 x.Kind ∧ I64 x.Limit
def api_Row.ok (x : api_Row) : Prop := I64 x.Kind ∧ I64 x.N ∧ I64 x.Sum
def api_Pos.ok (x : api_Pos) : Prop := I64 x.Acc ∧ I64 x.Inst ∧ I64 x.Q
def api_Order.ok (x : api_Order) : Prop := I64 x.Id ∧ I64 x.Acc ∧ I64 x.Inst ∧ I64 x.Side ∧ I64 x.Q ∧ I64 x.P
def api_Book.ok (x : api_Book) : Prop := ((∀ y ∈ x.Members, api_Member.ok y) ∧ x.Members.length < 281474976710656) ∧ ((∀ y ∈ x.Accs, api_Acc.ok y) ∧ x.Accs.length < 281474976710656) ∧ ((∀ y ∈ x.Rows, api_Row.ok y) ∧ x.Rows.length < 281474976710656) ∧ ((∀ y ∈ x.Stock, api_Pos.ok y) ∧ x.Stock.length < 281474976710656) ∧ ((∀ y ∈ x.Prices, I64 y) ∧ x.Prices.length < 281474976710656) ∧ ((∀ y ∈ x.Orders, api_Order.ok y) ∧ x.Orders.length < 281474976710656)
def api_Leg.ok (x : api_Leg) : Prop := I64 x.Inst ∧ I64 x.Q
def api_Lot.ok (x : api_Lot) : Prop := I64 x.Id ∧ ((∀ y ∈ x.Legs, api_Leg.ok y) ∧ x.Legs.length < 281474976710656) ∧ I64 x.Ref ∧ I64 x.State ∧ I64 x.Winner ∧ I64 x.Price
def api_Bid.ok (x : api_Bid) : Prop := I64 x.Seq ∧ I64 x.Lot ∧ I64 x.Member ∧ I64 x.Price
def api_Deed.ok (x : api_Deed) : Prop := I64 x.Member ∧ I64 x.Class
end Go.Ax

/- The functions on numbers, amounts and wide numbers, as printed functions lean on them. -/
set_option linter.unusedVariables false
namespace Go.Ax
open Go
/-- Small enough for the proofs about big numbers. -/
abbrev BigOk (z : Int) : Prop := z.natAbs < BB ^ 12
instance (x : Int) : Decidable (I64 x) := by unfold I64; infer_instance
def novationref1_Plus.f (a b : Int) : Option Int := if BigOk a ∧ BigOk b then some (a + b) else none
def novationref1_Less.f (a b : Int) : Option Int := if BigOk a ∧ BigOk b then some (a - b) else none
def novationref1_Times.f (a b : Int) : Option Int := if BigOk a ∧ BigOk b then some (a * b) else none
def novationref1_Sized.f (a : Int) : Option Int := if BigOk a then some (a.natAbs : Int) else none
def novationref1_Turned.f (a : Int) : Option Int := if BigOk a then some (-a) else none
def novationref1_Sign.f (a : Int) : Option Int := if BigOk a then some (cmpI a 0) else none
def novationref1_Cmp.f (a b : Int) : Option Int := if BigOk a ∧ BigOk b then some (cmpI a b) else none
def novationref1_Int.f (a : Int) : Option (Int × Bool) := if BigOk a then some (fitV a, fit a) else none
def novationref1_Whole.f (a : Int) : Option Int := if I64 a then some a else none
def novationref1_Wide.f (a : Int) : Option Int := if Wid a then some a else none
def novationhelp_Wide.f (w z : Int) : Option Bool := if Wid w ∧ BigOk z then some (decide (w = z)) else none
def amount_Size.f (a : Int) : Option Int := if I64 a then some (a.natAbs : Int) else none
def wide_Of.f (a : Int) : Option Int := if I64 a then some a else none
def wide_Mul.f (a b : Int) : Option Int := if I64 a ∧ I64 b then some (a * b) else none
def wide_Add.f (a b : Int) : Option (Int × Bool) := if Wid a ∧ Wid b then some (wfitV (a + b), wfit (a + b)) else none
def wide_Sub.f (a b : Int) : Option (Int × Bool) := if Wid a ∧ Wid b then some (wfitV (a - b), wfit (a - b)) else none
def wide_Neg.f (a : Int) : Option (Int × Bool) := if Wid a then some (wfitV (-a), wfit (-a)) else none
def wide_Abs.f (a : Int) : Option (Int × Bool) := if Wid a then some (wfitV (a.natAbs : Int), wfit (a.natAbs : Int)) else none
def wide_Times.f (a k : Int) : Option (Int × Bool) := if Wid a ∧ I64 k then some (wfitV (a * k), wfit (a * k)) else none
def wide_Cmp.f (a b : Int) : Option Int := some (cmpI a b)
def wide_Sign.f (a : Int) : Option Int := some (cmpI a 0)
def wide_Int.f (a : Int) : Option (Int × Bool) := if Wid a then some (fitV a, fit a) else none
def wide_Sum.f (l : List Int) : Option (Int × Bool) := if l.all wfit = true ∧ l.length ≤ 100000000000 then some (wfitV l.sum, wfit l.sum) else none
end Go.Ax

/- The functions of the program as Lean functions, printed by gen.py. -/
set_option linter.unusedVariables false
set_option maxRecDepth 100000
namespace Go.Ax
open Go
def novationlaw26_small.f : Option (api_Config × api_Book × (List api_Lot) × (List api_Bid)) := (some ((⟨[(⟨0, 100, 0, 0⟩ : api_Inst)], 0, 0, 0, 0, 1, 0⟩ : api_Config), (⟨[(⟨1, 1⟩ : api_Member), (⟨2, 2⟩ : api_Member), (⟨3, 1⟩ : api_Member), (⟨4, 3⟩ : api_Member)], ([] : List api_Acc), [(⟨1, 0, (-20)⟩ : api_Row), (⟨6, 1, 5⟩ : api_Row), (⟨6, 2, 5⟩ : api_Row), (⟨6, 3, 5⟩ : api_Row), (⟨6, 4, 5⟩ : api_Row)], ([] : List api_Pos), [100], ([] : List api_Order)⟩ : api_Book), [(⟨3, [(⟨0, 3⟩ : api_Leg)], (-2), 2, 1, 5⟩ : api_Lot)], [(⟨1, 3, 1, 5⟩ : api_Bid), (⟨2, 3, 3, (-3)⟩ : api_Bid)]))

def rank_Right.l0 (a0 : List api_Deed) : Nat → Int → Option (Flow Int Bool)
  | 0, _ => none
  | k0 + 1, x7_0 => (if x7_0 < (a0.length : Int) then (if 0 ≤ x7_0 ∧ x7_0 < (a0.length : Int) then (if (rd a0 x7_0).Member < 1 then (some (.ret false)) else (if (rd a0 x7_0).Member > 12 then (some (.ret false)) else (if (rd a0 x7_0).Class < 1 then (some (.ret false)) else (if (rd a0 x7_0).Class > 4 then (some (.ret false)) else (if x7_0 > 0 then (if 0 ≤ IntKind.i64.wrap (x7_0 - 1) ∧ IntKind.i64.wrap (x7_0 - 1) < (a0.length : Int) then (if (rd a0 (IntKind.i64.wrap (x7_0 - 1))).Member ≥ (rd a0 x7_0).Member then (some (.ret false)) else (rank_Right.l0 a0 k0 (IntKind.i64.wrap (x7_0 + 1)))) else none) else (rank_Right.l0 a0 k0 (IntKind.i64.wrap (x7_0 + 1)))))))) else none) else (some (.out x7_0)))
def rank_Right.f (a0 : List api_Deed) : Option Bool := ((rank_Right.l0 a0 FUEL 0).bind fun f0 => f0.go fun s0 => (some true))

def plan_in.f (a0 : Int) (a1 : Int) (a2 : Int) : Option Bool := (if a0 ≥ a1 then (some (decide (a0 ≤ a2))) else (some false))

def plan_Right.l0 (a0 : api_Config) : Nat → Int → Option (Flow Int Bool)
  | 0, _ => none
  | k1 + 1, x13_1 => (if x13_1 < (a0.Insts.length : Int) then (if 0 ≤ x13_1 ∧ x13_1 < (a0.Insts.length : Int) then ((plan_in.f (rd a0.Insts x13_1).Bucket 0 3).bind fun y6_2 => (if ¬(y6_2 = true) then (some (.ret false)) else ((plan_in.f (rd a0.Insts x13_1).Price 1 1000000000000).bind fun y6_7 => (if ¬(y6_7 = true) then (some (.ret false)) else ((plan_in.f (rd a0.Insts x13_1).Rate 0 1000000000).bind fun y6_13 => (if ¬(y6_13 = true) then (some (.ret false)) else ((plan_in.f (rd a0.Insts x13_1).Slip 0 1000000000).bind fun y6_19 => (if ¬(y6_19 = true) then (some (.ret false)) else (plan_Right.l0 a0 k1 (IntKind.i64.wrap (x13_1 + 1))))))))))) else none) else (some (.out x13_1)))
def plan_Right.f (a0 : api_Config) : Option Bool := ((plan_in.f (a0.Insts.length : Int) 1 6).bind fun y1_3 => (if ¬(y1_3 = true) then (some false) else ((plan_Right.l0 a0 FUEL 0).bind fun f1 => f1.go fun s1 => (if a0.Skin ≥ 0 then ((plan_in.f a0.Times 0 4).bind fun y9_6 => (if y9_6 = true then ((plan_in.f a0.Port 0 1000000).bind fun y9_11 => (if y9_11 = true then ((plan_in.f a0.Bid 0 1000000).bind fun y9_16 => (if y9_16 = true then ((plan_in.f a0.LotSize 1 4611686018427387904).bind fun y9_21 => (if y9_21 = true then (some (decide (a0.HedgeMin ≥ 0))) else (some false))) else (some false))) else (some false))) else (some false))) else (some false)))))

def stock_Quantity.f (a0 : Int) : Option Bool := (some (a0 != (-9223372036854775808)))

def need_Legs.l0 (a0 : api_Config) (a1 : List api_Leg) : Nat → Int → Option (Flow Int Bool)
  | 0, _ => none
  | k0 + 1, x9_0 => (if x9_0 < (a1.length : Int) then (if 0 ≤ x9_0 ∧ x9_0 < (a1.length : Int) then (if (rd a1 x9_0).Inst < 0 then (some (.ret false)) else (if (rd a1 x9_0).Inst ≥ (a0.Insts.length : Int) then (some (.ret false)) else (if (rd a1 x9_0).Q = 0 then (some (.ret false)) else ((stock_Quantity.f (rd a1 x9_0).Q).bind fun y4_19 => (if ¬(y4_19 = true) then (some (.ret false)) else (if x9_0 > 0 then (if 0 ≤ IntKind.i64.wrap (x9_0 - 1) ∧ IntKind.i64.wrap (x9_0 - 1) < (a1.length : Int) then (if (rd a1 (IntKind.i64.wrap (x9_0 - 1))).Inst ≥ (rd a1 x9_0).Inst then (some (.ret false)) else (need_Legs.l0 a0 a1 k0 (IntKind.i64.wrap (x9_0 + 1)))) else none) else (need_Legs.l0 a0 a1 k0 (IntKind.i64.wrap (x9_0 + 1))))))))) else none) else (some (.out x9_0)))
def need_Legs.f (a0 : api_Config) (a1 : List api_Leg) : Option Bool := ((need_Legs.l0 a0 a1 FUEL 0).bind fun f0 => f0.go fun s0 => ((plan_Right.f a0).bind fun y7_1 => (some y7_1)))

def lot_Right.l0 (a0 : api_Config) (a1 : List api_Lot) : Nat → Int → Option (Flow Int Bool)
  | 0, _ => none
  | k1 + 1, x17_1 => (if x17_1 < (a1.length : Int) then (if 0 ≤ x17_1 ∧ x17_1 < (a1.length : Int) then (if (rd a1 x17_1).Id < 1 then (some (.ret false)) else (if (rd a1 x17_1).Id > 1099511627776 then (some (.ret false)) else (if x17_1 > 0 then (if 0 ≤ IntKind.i64.wrap (x17_1 - 1) ∧ IntKind.i64.wrap (x17_1 - 1) < (a1.length : Int) then (if (rd a1 (IntKind.i64.wrap (x17_1 - 1))).Id ≥ (rd a1 x17_1).Id then (some (.ret false)) else (if ((rd a1 x17_1).Legs.length : Int) = 0 then (some (.ret false)) else ((need_Legs.f a0 (rd a1 x17_1).Legs).bind fun y6_33 => (if ¬(y6_33 = true) then (some (.ret false)) else (if (rd a1 x17_1).Ref > 0 then (some (.ret false)) else (if (rd a1 x17_1).State = 1 then (if (rd a1 x17_1).State = 1 then (if ¬((rd a1 x17_1).Winner = 0) then (some (.ret false)) else (if ¬((rd a1 x17_1).Price = 0) then (some (.ret false)) else (lot_Right.l0 a0 a1 k1 (IntKind.i64.wrap (x17_1 + 1))))) else (if (rd a1 x17_1).State = 2 then (if (rd a1 x17_1).Winner < 1 then (some (.ret false)) else (if (rd a1 x17_1).Winner > 12 then (some (.ret false)) else (if (rd a1 x17_1).Price < (-1152921504606846976) then (some (.ret false)) else (if (rd a1 x17_1).Price > 1152921504606846976 then (some (.ret false)) else (lot_Right.l0 a0 a1 k1 (IntKind.i64.wrap (x17_1 + 1))))))) else (some (.ret false)))) else (if (rd a1 x17_1).State = 3 then (if ¬((rd a1 x17_1).Winner = 0) then (some (.ret false)) else (if ¬((rd a1 x17_1).Price = 0) then (some (.ret false)) else (lot_Right.l0 a0 a1 k1 (IntKind.i64.wrap (x17_1 + 1))))) else (if (rd a1 x17_1).State = 2 then (if (rd a1 x17_1).Winner < 1 then (some (.ret false)) else (if (rd a1 x17_1).Winner > 12 then (some (.ret false)) else (if (rd a1 x17_1).Price < (-1152921504606846976) then (some (.ret false)) else (if (rd a1 x17_1).Price > 1152921504606846976 then (some (.ret false)) else (lot_Right.l0 a0 a1 k1 (IntKind.i64.wrap (x17_1 + 1))))))) else (some (.ret false)))))))))) else none) else (if ((rd a1 x17_1).Legs.length : Int) = 0 then (some (.ret false)) else ((need_Legs.f a0 (rd a1 x17_1).Legs).bind fun y6_33 => (if ¬(y6_33 = true) then (some (.ret false)) else (if (rd a1 x17_1).Ref > 0 then (some (.ret false)) else (if (rd a1 x17_1).State = 1 then (if (rd a1 x17_1).State = 1 then (if ¬((rd a1 x17_1).Winner = 0) then (some (.ret false)) else (if ¬((rd a1 x17_1).Price = 0) then (some (.ret false)) else (lot_Right.l0 a0 a1 k1 (IntKind.i64.wrap (x17_1 + 1))))) else (if (rd a1 x17_1).State = 2 then (if (rd a1 x17_1).Winner < 1 then (some (.ret false)) else (if (rd a1 x17_1).Winner > 12 then (some (.ret false)) else (if (rd a1 x17_1).Price < (-1152921504606846976) then (some (.ret false)) else (if (rd a1 x17_1).Price > 1152921504606846976 then (some (.ret false)) else (lot_Right.l0 a0 a1 k1 (IntKind.i64.wrap (x17_1 + 1))))))) else (some (.ret false)))) else (if (rd a1 x17_1).State = 3 then (if ¬((rd a1 x17_1).Winner = 0) then (some (.ret false)) else (if ¬((rd a1 x17_1).Price = 0) then (some (.ret false)) else (lot_Right.l0 a0 a1 k1 (IntKind.i64.wrap (x17_1 + 1))))) else (if (rd a1 x17_1).State = 2 then (if (rd a1 x17_1).Winner < 1 then (some (.ret false)) else (if (rd a1 x17_1).Winner > 12 then (some (.ret false)) else (if (rd a1 x17_1).Price < (-1152921504606846976) then (some (.ret false)) else (if (rd a1 x17_1).Price > 1152921504606846976 then (some (.ret false)) else (lot_Right.l0 a0 a1 k1 (IntKind.i64.wrap (x17_1 + 1))))))) else (some (.ret false)))))))))))) else none) else (some (.out x17_1)))
def lot_Right.f (a0 : api_Config) (a1 : List api_Lot) : Option Bool := ((plan_Right.f a0).bind fun y1_1 => (if ¬(y1_1 = true) then (some false) else (if (a1.length : Int) > 12 then (some false) else ((lot_Right.l0 a0 a1 FUEL 0).bind fun f1 => f1.go fun s1 => (some true)))))

def bid_Bid.f (a0 : api_Bid) : Option Bool := (if a0.Seq ≥ 1 then (if a0.Seq ≤ 1099511627776 then (if a0.Lot ≥ 1 then (if a0.Lot ≤ 1099511627776 then (if a0.Member ≥ 1 then (if a0.Member ≤ 12 then (if a0.Price ≥ (-1152921504606846976) then (some (decide (a0.Price ≤ 1152921504606846976))) else (some false)) else (some false)) else (some false)) else (some false)) else (some false)) else (some false)) else (some false))

def bid_twice_1.f (a0 : api_Bid) (a1 : Int) (a2 : Int) : Option Bool := (if a0.Member = a1 then (some (a0.Lot == a2)) else (some false))

def slices_IndexFunc_api_Bid_bid_twice_1.l0 (a0 : List api_Bid) (a1_0 : Int) (a1_1 : Int) : Nat → Int → Option (Flow Int Int)
  | 0, _ => none
  | k0 + 1, x8_0 => (if x8_0 < (a0.length : Int) then (if 0 ≤ x8_0 ∧ x8_0 < (a0.length : Int) then ((bid_twice_1.f (rd a0 x8_0) a1_0 a1_1).bind fun y4_5 => (if y4_5 = true then (some (.ret x8_0)) else (slices_IndexFunc_api_Bid_bid_twice_1.l0 a0 a1_0 a1_1 k0 (IntKind.i64.wrap (x8_0 + 1))))) else none) else (some (.out x8_0)))
def slices_IndexFunc_api_Bid_bid_twice_1.f (a0 : List api_Bid) (a1_0 : Int) (a1_1 : Int) : Option Int := ((slices_IndexFunc_api_Bid_bid_twice_1.l0 a0 a1_0 a1_1 FUEL 0).bind fun f0 => f0.go fun s0 => (some (-1)))

def slices_ContainsFunc_api_Bid_bid_twice_1.f (a0 : List api_Bid) (a1_0 : Int) (a1_1 : Int) : Option Bool := ((slices_IndexFunc_api_Bid_bid_twice_1.f a0 a1_0 a1_1).bind fun y1_2 => (some (decide (y1_2 ≥ 0))))

def bid_twice.f (a0 : List api_Bid) (a1 : Int) (a2 : Int) : Option Bool := ((slices_ContainsFunc_api_Bid_bid_twice_1.f a0 a1 a2).bind fun y1_2 => (some y1_2))

def bid_Right.l0 (a0 : List api_Bid) : Nat → Int → Option (Flow Int Bool)
  | 0, _ => none
  | k0 + 1, x7_0 => (if x7_0 < (a0.length : Int) then (if 0 ≤ x7_0 ∧ x7_0 < (a0.length : Int) then ((bid_Bid.f (rd a0 x7_0)).bind fun y4_1 => (if ¬(y4_1 = true) then (some (.ret false)) else (if x7_0 > 0 then (if 0 ≤ IntKind.i64.wrap (x7_0 - 1) ∧ IntKind.i64.wrap (x7_0 - 1) < (a0.length : Int) then (if (rd a0 (IntKind.i64.wrap (x7_0 - 1))).Seq ≥ (rd a0 x7_0).Seq then (some (.ret false)) else (if 0 ≤ 0 ∧ 0 ≤ x7_0 ∧ x7_0 ≤ (a0.length : Int) then ((bid_twice.f (a0.take x7_0.toNat) (rd a0 x7_0).Member (rd a0 x7_0).Lot).bind fun y4_26 => (if y4_26 = true then (some (.ret false)) else (bid_Right.l0 a0 k0 (IntKind.i64.wrap (x7_0 + 1))))) else none)) else none) else (if 0 ≤ 0 ∧ 0 ≤ x7_0 ∧ x7_0 ≤ (a0.length : Int) then ((bid_twice.f (a0.take x7_0.toNat) (rd a0 x7_0).Member (rd a0 x7_0).Lot).bind fun y4_26 => (if y4_26 = true then (some (.ret false)) else (bid_Right.l0 a0 k0 (IntKind.i64.wrap (x7_0 + 1))))) else none)))) else none) else (some (.out x7_0)))
def bid_Right.f (a0 : List api_Bid) : Option Bool := ((bid_Right.l0 a0 FUEL 0).bind fun f0 => f0.go fun s0 => (some (decide ((a0.length : Int) ≤ 40))))

def rank_Rise.l0 (a0 : List Int) : Nat → Int → Option (Flow Int Bool)
  | 0, _ => none
  | k0 + 1, x7_0 => (if x7_0 < (a0.length : Int) then (if 0 ≤ x7_0 ∧ x7_0 < (a0.length : Int) then (if (rd a0 x7_0) < 1 then (some (.ret false)) else (if (rd a0 x7_0) > 12 then (some (.ret false)) else (if x7_0 > 0 then (if 0 ≤ IntKind.i64.wrap (x7_0 - 1) ∧ IntKind.i64.wrap (x7_0 - 1) < (a0.length : Int) then (if (rd a0 (IntKind.i64.wrap (x7_0 - 1))) ≥ (rd a0 x7_0) then (some (.ret false)) else (rank_Rise.l0 a0 k0 (IntKind.i64.wrap (x7_0 + 1)))) else none) else (rank_Rise.l0 a0 k0 (IntKind.i64.wrap (x7_0 + 1)))))) else none) else (some (.out x7_0)))
def rank_Rise.f (a0 : List Int) : Option Bool := ((rank_Rise.l0 a0 FUEL 0).bind fun f0 => f0.go fun s0 => (some true))

def rank_Deeds_1.f (a0 : api_Deed) (a1 : Int) : Option Bool := (some (a0.Member == a1))

def slices_IndexFunc_api_Deed_rank_Deeds_1.l0 (a0 : List api_Deed) (a1_0 : Int) : Nat → Int → Option (Flow Int Int)
  | 0, _ => none
  | k0 + 1, x8_0 => (if x8_0 < (a0.length : Int) then (if 0 ≤ x8_0 ∧ x8_0 < (a0.length : Int) then ((rank_Deeds_1.f (rd a0 x8_0) a1_0).bind fun y4_5 => (if y4_5 = true then (some (.ret x8_0)) else (slices_IndexFunc_api_Deed_rank_Deeds_1.l0 a0 a1_0 k0 (IntKind.i64.wrap (x8_0 + 1))))) else none) else (some (.out x8_0)))
def slices_IndexFunc_api_Deed_rank_Deeds_1.f (a0 : List api_Deed) (a1_0 : Int) : Option Int := ((slices_IndexFunc_api_Deed_rank_Deeds_1.l0 a0 a1_0 FUEL 0).bind fun f0 => f0.go fun s0 => (some (-1)))

def slices_Index_int.l0 (a0 : List Int) (a1 : Int) : Nat → Int → Option (Flow Int Int)
  | 0, _ => none
  | k0 + 1, x8_0 => (if x8_0 < (a0.length : Int) then (if 0 ≤ x8_0 ∧ x8_0 < (a0.length : Int) then (if a1 = (rd a0 x8_0) then (some (.ret x8_0)) else (slices_Index_int.l0 a0 a1 k0 (IntKind.i64.wrap (x8_0 + 1)))) else none) else (some (.out x8_0)))
def slices_Index_int.f (a0 : List Int) (a1 : Int) : Option Int := ((slices_Index_int.l0 a0 a1 FUEL 0).bind fun f0 => f0.go fun s0 => (some (-1)))

def slices_Contains_int.f (a0 : List Int) (a1 : Int) : Option Bool := ((slices_Index_int.f a0 a1).bind fun y1_2 => (some (decide (y1_2 ≥ 0))))

def rank_Deeds_2.f (a0 : api_Bid) (a1 : Int) : Option Bool := (some (a0.Member == a1))

def slices_IndexFunc_api_Bid_rank_Deeds_2.l0 (a0 : List api_Bid) (a1_0 : Int) : Nat → Int → Option (Flow Int Int)
  | 0, _ => none
  | k0 + 1, x8_0 => (if x8_0 < (a0.length : Int) then (if 0 ≤ x8_0 ∧ x8_0 < (a0.length : Int) then ((rank_Deeds_2.f (rd a0 x8_0) a1_0).bind fun y4_5 => (if y4_5 = true then (some (.ret x8_0)) else (slices_IndexFunc_api_Bid_rank_Deeds_2.l0 a0 a1_0 k0 (IntKind.i64.wrap (x8_0 + 1))))) else none) else (some (.out x8_0)))
def slices_IndexFunc_api_Bid_rank_Deeds_2.f (a0 : List api_Bid) (a1_0 : Int) : Option Int := ((slices_IndexFunc_api_Bid_rank_Deeds_2.l0 a0 a1_0 FUEL 0).bind fun f0 => f0.go fun s0 => (some (-1)))

def slices_ContainsFunc_api_Bid_rank_Deeds_2.f (a0 : List api_Bid) (a1_0 : Int) : Option Bool := ((slices_IndexFunc_api_Bid_rank_Deeds_2.f a0 a1_0).bind fun y1_2 => (some (decide (y1_2 ≥ 0))))

def lot_Find.l0 (a0 : List api_Lot) (a1 : Int) : Nat → Int → Option (Flow Int (api_Lot × Bool))
  | 0, _ => none
  | k0 + 1, x10_0 => (if x10_0 < (a0.length : Int) then (if 0 ≤ x10_0 ∧ x10_0 < (a0.length : Int) then (if (rd a0 x10_0).Id = a1 then (if (rd a0 x10_0).Legs.length ≤ 100000000000 then (some (.ret ((rd a0 x10_0), true))) else none) else (lot_Find.l0 a0 a1 k0 (IntKind.i64.wrap (x10_0 + 1)))) else none) else (some (.out x10_0)))
def lot_Find.f (a0 : List api_Lot) (a1 : Int) : Option (api_Lot × Bool) := ((lot_Find.l0 a0 a1 FUEL 0).bind fun f0 => f0.go fun s0 => (some ((⟨0, ([] : List api_Leg), 0, 0, 0, 0⟩ : api_Lot), false)))

def rank_done.l0 (a0 : Int) (a1 : List api_Lot) : Nat → Int → Option (Flow Int Int)
  | 0, _ => none
  | k0 + 1, x16_0 => (if x16_0 < (a1.length : Int) then (if 0 ≤ x16_0 ∧ x16_0 < (a1.length : Int) then (if (rd a1 x16_0).State = 2 then (if (rd a1 x16_0).Winner = a0 then (some (.ret 4)) else (rank_done.l0 a0 a1 k0 (IntKind.i64.wrap (x16_0 + 1)))) else (rank_done.l0 a0 a1 k0 (IntKind.i64.wrap (x16_0 + 1)))) else none) else (some (.out x16_0)))
def rank_done.l1 (a0 : Int) (a1 : List api_Lot) (a2 : List api_Bid) : Nat → Int → Int → Option (Int × Int)
  | 0, _, _ => none
  | k3 + 1, x7_3, x32_3 => (if x32_3 < (a2.length : Int) then (if 0 ≤ x32_3 ∧ x32_3 < (a2.length : Int) then (if ¬((rd a2 x32_3).Member = a0) then (rank_done.l1 a0 a1 a2 k3 x7_3 (IntKind.i64.wrap (x32_3 + 1))) else ((lot_Find.f a1 (rd a2 x32_3).Lot).bind fun y13_3 => (if y13_3.2 = true then (if (rd a2 x32_3).Price ≥ y13_3.1.Ref then (rank_done.l1 a0 a1 a2 k3 3 (IntKind.i64.wrap (x32_3 + 1))) else (rank_done.l1 a0 a1 a2 k3 (if 2 > x7_3 then 2 else x7_3) (IntKind.i64.wrap (x32_3 + 1)))) else (rank_done.l1 a0 a1 a2 k3 (if 2 > x7_3 then 2 else x7_3) (IntKind.i64.wrap (x32_3 + 1)))))) else none) else (some (x7_3, x32_3)))
def rank_done.f (a0 : Int) (a1 : List api_Lot) (a2 : List api_Bid) : Option Int := ((rank_done.l0 a0 a1 FUEL 0).bind fun f0 => f0.go fun s0 => ((rank_done.l1 a0 a1 a2 FUEL 1 0).bind fun s3 => (some s3.1)))

def rank_Class.l0 (a0 : List api_Deed) (a1 : Int) : Nat → Int → Option (Flow Int Int)
  | 0, _ => none
  | k1 + 1, x12_1 => (if x12_1 < (a0.length : Int) then (if 0 ≤ x12_1 ∧ x12_1 < (a0.length : Int) then (if (rd a0 x12_1).Member = a1 then (some (.ret (rd a0 x12_1).Class)) else (rank_Class.l0 a0 a1 k1 (IntKind.i64.wrap (x12_1 + 1)))) else none) else (some (.out x12_1)))
def rank_Class.f (a0 : List api_Deed) (a1 : Int) : Option Int := ((rank_Right.f a0).bind fun y1_1 => (if ¬(y1_1 = true) then (some 0) else ((rank_Class.l0 a0 a1 FUEL 0).bind fun f1 => f1.go fun s1 => (some 1))))

def rank_Deeds.l0 (a1 : List api_Deed) (a2 : List Int) (a3 : List api_Lot) (a4 : List api_Bid) : Nat → List api_Deed → Int → Option ((List api_Deed) × Int)
  | 0, _, _ => none
  | k1 + 1, x12_1, x13_1 => (if x13_1 ≤ 12 then ((slices_IndexFunc_api_Deed_rank_Deeds_1.f a1 x13_1).bind fun y7_2 => (if y7_2 < 0 then ((slices_Contains_int.f a2 x13_1).bind fun y8_5 => (if ¬(y8_5 = true) then ((slices_ContainsFunc_api_Bid_rank_Deeds_2.f a4 x13_1).bind fun y8_11 => (if ¬(y8_11 = true) then (rank_Deeds.l0 a1 a2 a3 a4 k1 x12_1 (IntKind.i64.wrap (x13_1 + 1))) else ((rank_done.f x13_1 a3 a4).bind fun y9_5 => ((rank_Class.f a1 x13_1).bind fun y9_8 => (if x12_1.length + 1 ≤ 100000000000 then (rank_Deeds.l0 a1 a2 a3 a4 k1 (x12_1 ++ ([(⟨x13_1, (if y9_8 > y9_5 then y9_8 else y9_5)⟩ : api_Deed)])) (IntKind.i64.wrap (x13_1 + 1))) else none))))) else ((rank_done.f x13_1 a3 a4).bind fun y9_5 => ((rank_Class.f a1 x13_1).bind fun y9_8 => (if x12_1.length + 1 ≤ 100000000000 then (rank_Deeds.l0 a1 a2 a3 a4 k1 (x12_1 ++ ([(⟨x13_1, (if y9_8 > y9_5 then y9_8 else y9_5)⟩ : api_Deed)])) (IntKind.i64.wrap (x13_1 + 1))) else none))))) else ((rank_done.f x13_1 a3 a4).bind fun y9_5 => ((rank_Class.f a1 x13_1).bind fun y9_8 => (if x12_1.length + 1 ≤ 100000000000 then (rank_Deeds.l0 a1 a2 a3 a4 k1 (x12_1 ++ ([(⟨x13_1, (if y9_8 > y9_5 then y9_8 else y9_5)⟩ : api_Deed)])) (IntKind.i64.wrap (x13_1 + 1))) else none))))) else (some (x12_1, x13_1)))
def rank_Deeds.f (a0 : api_Config) (a1 : List api_Deed) (a2 : List Int) (a3 : List api_Lot) (a4 : List api_Bid) : Option ((List api_Deed) × Int) := ((rank_Right.f a1).bind fun y1_1 => (if ¬(y1_1 = true) then (some (([] : List api_Deed), 1)) else ((lot_Right.f a0 a3).bind fun y1_6 => (if ¬(y1_6 = true) then (some (([] : List api_Deed), 1)) else ((bid_Right.f a4).bind fun y1_11 => (if ¬(y1_11 = true) then (some (([] : List api_Deed), 1)) else ((rank_Rise.f a2).bind fun y1_16 => (if ¬(y1_16 = true) then (some (([] : List api_Deed), 1)) else ((rank_Deeds.l0 a1 a2 a3 a4 FUEL ([] : List api_Deed) 1).bind fun s1 => (some (s1.1, 0)))))))))))

def roll_Members.l0 (a0 : List api_Member) : Nat → Int → Option (Flow Int Bool)
  | 0, _ => none
  | k0 + 1, x7_0 => (if x7_0 < (a0.length : Int) then (if 0 ≤ x7_0 ∧ x7_0 < (a0.length : Int) then (if (rd a0 x7_0).Id < 1 then (some (.ret false)) else (if (rd a0 x7_0).Id > 12 then (some (.ret false)) else (if (rd a0 x7_0).Status < 1 then (some (.ret false)) else (if (rd a0 x7_0).Status > 4 then (some (.ret false)) else (if x7_0 > 0 then (if 0 ≤ IntKind.i64.wrap (x7_0 - 1) ∧ IntKind.i64.wrap (x7_0 - 1) < (a0.length : Int) then (if (rd a0 (IntKind.i64.wrap (x7_0 - 1))).Id ≥ (rd a0 x7_0).Id then (some (.ret false)) else (roll_Members.l0 a0 k0 (IntKind.i64.wrap (x7_0 + 1)))) else none) else (roll_Members.l0 a0 k0 (IntKind.i64.wrap (x7_0 + 1)))))))) else none) else (some (.out x7_0)))
def roll_Members.f (a0 : List api_Member) : Option Bool := ((roll_Members.l0 a0 FUEL 0).bind fun f0 => f0.go fun s0 => (some true))

def roll_Accs.l0 (a0 : List api_Acc) : Nat → List Bool → Int → Option (Flow ((List Bool) × Int) Bool)
  | 0, _, _ => none
  | k0 + 1, x3_0, x8_0 => (if x8_0 < (a0.length : Int) then (if 0 ≤ x8_0 ∧ x8_0 < (a0.length : Int) then (if (rd a0 x8_0).Id < 1 then (some (.ret false)) else (if (rd a0 x8_0).Id > 24 then (some (.ret false)) else (if (rd a0 x8_0).Member < 1 then (some (.ret false)) else (if (rd a0 x8_0).Member > 12 then (some (.ret false)) else (if ¬((rd a0 x8_0).Kind = 1) then (if ¬((rd a0 x8_0).Kind = 2) then (some (.ret false)) else (if (rd a0 x8_0).Limit < 0 then (some (.ret false)) else (if (rd a0 x8_0).Limit > 1000000000000 then (some (.ret false)) else (if x8_0 > 0 then (if 0 ≤ IntKind.i64.wrap (x8_0 - 1) ∧ IntKind.i64.wrap (x8_0 - 1) < (a0.length : Int) then (if (rd a0 (IntKind.i64.wrap (x8_0 - 1))).Id ≥ (rd a0 x8_0).Id then (some (.ret false)) else (if (rd a0 x8_0).Kind = 1 then (if 0 ≤ (rd a0 x8_0).Member ∧ (rd a0 x8_0).Member < 13 then (if (rd a0 x8_0).Member < (x3_0.length : Int) then (if (rd x3_0 (rd a0 x8_0).Member) = true then (some (.ret false)) else (roll_Accs.l0 a0 k0 (x3_0.set (rd a0 x8_0).Member.toNat true) (IntKind.i64.wrap (x8_0 + 1)))) else none) else none) else (roll_Accs.l0 a0 k0 x3_0 (IntKind.i64.wrap (x8_0 + 1))))) else none) else (if (rd a0 x8_0).Kind = 1 then (if 0 ≤ (rd a0 x8_0).Member ∧ (rd a0 x8_0).Member < 13 then (if (rd a0 x8_0).Member < (x3_0.length : Int) then (if (rd x3_0 (rd a0 x8_0).Member) = true then (some (.ret false)) else (roll_Accs.l0 a0 k0 (x3_0.set (rd a0 x8_0).Member.toNat true) (IntKind.i64.wrap (x8_0 + 1)))) else none) else none) else (roll_Accs.l0 a0 k0 x3_0 (IntKind.i64.wrap (x8_0 + 1)))))))) else (if (rd a0 x8_0).Limit < 0 then (some (.ret false)) else (if (rd a0 x8_0).Limit > 1000000000000 then (some (.ret false)) else (if x8_0 > 0 then (if 0 ≤ IntKind.i64.wrap (x8_0 - 1) ∧ IntKind.i64.wrap (x8_0 - 1) < (a0.length : Int) then (if (rd a0 (IntKind.i64.wrap (x8_0 - 1))).Id ≥ (rd a0 x8_0).Id then (some (.ret false)) else (if (rd a0 x8_0).Kind = 1 then (if 0 ≤ (rd a0 x8_0).Member ∧ (rd a0 x8_0).Member < 13 then (if (rd a0 x8_0).Member < (x3_0.length : Int) then (if (rd x3_0 (rd a0 x8_0).Member) = true then (some (.ret false)) else (roll_Accs.l0 a0 k0 (x3_0.set (rd a0 x8_0).Member.toNat true) (IntKind.i64.wrap (x8_0 + 1)))) else none) else none) else (roll_Accs.l0 a0 k0 x3_0 (IntKind.i64.wrap (x8_0 + 1))))) else none) else (if (rd a0 x8_0).Kind = 1 then (if 0 ≤ (rd a0 x8_0).Member ∧ (rd a0 x8_0).Member < 13 then (if (rd a0 x8_0).Member < (x3_0.length : Int) then (if (rd x3_0 (rd a0 x8_0).Member) = true then (some (.ret false)) else (roll_Accs.l0 a0 k0 (x3_0.set (rd a0 x8_0).Member.toNat true) (IntKind.i64.wrap (x8_0 + 1)))) else none) else none) else (roll_Accs.l0 a0 k0 x3_0 (IntKind.i64.wrap (x8_0 + 1)))))))))))) else none) else (some (.out (x3_0, x8_0))))
def roll_Accs.f (a0 : List api_Acc) : Option Bool := ((roll_Accs.l0 a0 FUEL ([false, false, false, false, false, false, false, false, false, false, false, false, false] : List Bool) 0).bind fun f0 => f0.go fun s0 => (some true))

def roll_Status.l0 (a0 : List api_Member) (a1 : Int) : Nat → Int → Option (Flow Int Int)
  | 0, _ => none
  | k1 + 1, x12_1 => (if x12_1 < (a0.length : Int) then (if 0 ≤ x12_1 ∧ x12_1 < (a0.length : Int) then (if (rd a0 x12_1).Id = a1 then (some (.ret (rd a0 x12_1).Status)) else (roll_Status.l0 a0 a1 k1 (IntKind.i64.wrap (x12_1 + 1)))) else none) else (some (.out x12_1)))
def roll_Status.f (a0 : List api_Member) (a1 : Int) : Option Int := ((roll_Members.f a0).bind fun y1_1 => (if ¬(y1_1 = true) then (some 0) else ((roll_Status.l0 a0 a1 FUEL 0).bind fun f1 => f1.go fun s1 => (some 0))))

def roll_Right.l0 (a0 : List api_Member) (a1 : List api_Acc) : Nat → Int → Option (Flow Int Bool)
  | 0, _ => none
  | k1 + 1, x17_1 => (if x17_1 < (a1.length : Int) then (if 0 ≤ x17_1 ∧ x17_1 < (a1.length : Int) then ((roll_Status.f a0 (rd a1 x17_1).Member).bind fun y6_3 => (if y6_3 = 0 then (some (.ret false)) else (roll_Right.l0 a0 a1 k1 (IntKind.i64.wrap (x17_1 + 1))))) else none) else (some (.out x17_1)))
def roll_Right.f (a0 : List api_Member) (a1 : List api_Acc) : Option Bool := ((roll_Members.f a0).bind fun y1_1 => (if ¬(y1_1 = true) then (some false) else ((roll_Accs.f a1).bind fun y1_5 => (if ¬(y1_5 = true) then (some false) else ((roll_Right.l0 a0 a1 FUEL 0).bind fun f1 => f1.go fun s1 => (some true))))))

def ledger_Key.f (a0 : Int) (a1 : Int) : Option Bool := (if a0 = 1 then (if a0 = 1 then (some (a1 == 0)) else (if a0 = 5 then (if a1 ≥ 1 then (some (decide (a1 ≤ 24))) else (some false)) else (if a0 = 6 then (if a0 = 6 then (if a1 ≥ 1 then (some (decide (a1 ≤ 12))) else (some false)) else (some false)) else (if a0 = 7 then (if a1 ≥ 1 then (some (decide (a1 ≤ 12))) else (some false)) else (some false))))) else (if a0 = 2 then (if a0 = 2 then (some (a1 == 0)) else (if a0 = 5 then (if a1 ≥ 1 then (some (decide (a1 ≤ 24))) else (some false)) else (if a0 = 6 then (if a0 = 6 then (if a1 ≥ 1 then (some (decide (a1 ≤ 12))) else (some false)) else (some false)) else (if a0 = 7 then (if a1 ≥ 1 then (some (decide (a1 ≤ 12))) else (some false)) else (some false))))) else (if a0 = 3 then (if a0 = 3 then (some (a1 == 0)) else (if a0 = 5 then (if a1 ≥ 1 then (some (decide (a1 ≤ 24))) else (some false)) else (if a0 = 6 then (if a0 = 6 then (if a1 ≥ 1 then (some (decide (a1 ≤ 12))) else (some false)) else (some false)) else (if a0 = 7 then (if a1 ≥ 1 then (some (decide (a1 ≤ 12))) else (some false)) else (some false))))) else (if a0 = 4 then (some (a1 == 0)) else (if a0 = 5 then (if a1 ≥ 1 then (some (decide (a1 ≤ 24))) else (some false)) else (if a0 = 6 then (if a0 = 6 then (if a1 ≥ 1 then (some (decide (a1 ≤ 12))) else (some false)) else (some false)) else (if a0 = 7 then (if a1 ≥ 1 then (some (decide (a1 ≤ 12))) else (some false)) else (some false))))))))

def ledger_order.f (a0 : Int) (a1 : Int) (a2 : api_Row) : Option Int := (if ¬(a0 = a2.Kind) then (some (IntKind.i64.wrap (a0 - a2.Kind))) else (some (IntKind.i64.wrap (a1 - a2.N))))

def ledger_Right.l0 (a0 : List api_Row) : Nat → Int → Option (Flow Int Bool)
  | 0, _ => none
  | k0 + 1, x7_0 => (if x7_0 < (a0.length : Int) then (if 0 ≤ x7_0 ∧ x7_0 < (a0.length : Int) then ((ledger_Key.f (rd a0 x7_0).Kind (rd a0 x7_0).N).bind fun y4_4 => (if ¬(y4_4 = true) then (some (.ret false)) else (if (rd a0 x7_0).Sum = 0 then (some (.ret false)) else (if x7_0 > 0 then (if 0 ≤ IntKind.i64.wrap (x7_0 - 1) ∧ IntKind.i64.wrap (x7_0 - 1) < (a0.length : Int) then ((ledger_order.f (rd a0 x7_0).Kind (rd a0 x7_0).N (rd a0 (IntKind.i64.wrap (x7_0 - 1)))).bind fun y4_24 => (if y4_24 ≤ 0 then (some (.ret false)) else (ledger_Right.l0 a0 k0 (IntKind.i64.wrap (x7_0 + 1))))) else none) else (ledger_Right.l0 a0 k0 (IntKind.i64.wrap (x7_0 + 1))))))) else none) else (some (.out x7_0)))
def ledger_Right.f (a0 : List api_Row) : Option Bool := ((ledger_Right.l0 a0 FUEL 0).bind fun f0 => f0.go fun s0 => (some true))

def ledger_Total.l0 (a0 : List api_Row) : Nat → List Int → Int → Option ((List Int) × Int)
  | 0, _, _ => none
  | k1 + 1, x3_1, x14_1 => (if x14_1 < (a0.length : Int) then (if 0 ≤ x14_1 ∧ x14_1 < (a0.length : Int) then ((wide_Of.f (rd a0 x14_1).Sum).bind fun y7_3 => (if x3_1.length + 1 ≤ 100000000000 then (ledger_Total.l0 a0 k1 (x3_1 ++ ([y7_3])) (IntKind.i64.wrap (x14_1 + 1))) else none)) else none) else (some (x3_1, x14_1)))
def ledger_Total.f (a0 : List api_Row) : Option Int := ((ledger_Right.f a0).bind fun y1_1 => (if ¬(y1_1 = true) then (some 0) else ((ledger_Total.l0 a0 FUEL ([] : List Int) 0).bind fun s1 => ((wide_Sum.f s1.1).bind fun y9_1 => (some y9_1.1)))))

def stock_key.f (a0 : Int) (a1 : Int) : Option Bool := (if a0 ≥ 0 then (if a0 ≤ 24 then (if a1 ≥ 0 then (some (decide (a1 < 6))) else (some false)) else (some false)) else (some false))

def stock_order.f (a0 : Int) (a1 : Int) (a2 : api_Pos) : Option Int := (if ¬(a0 = a2.Acc) then (some (IntKind.i64.wrap (a0 - a2.Acc))) else (some (IntKind.i64.wrap (a1 - a2.Inst))))

def stock_Right.l0 (a0 : List api_Pos) : Nat → Int → Option (Flow Int Bool)
  | 0, _ => none
  | k0 + 1, x7_0 => (if x7_0 < (a0.length : Int) then (if 0 ≤ x7_0 ∧ x7_0 < (a0.length : Int) then ((stock_key.f (rd a0 x7_0).Acc (rd a0 x7_0).Inst).bind fun y4_4 => (if ¬(y4_4 = true) then (some (.ret false)) else (if (rd a0 x7_0).Q = 0 then (some (.ret false)) else ((stock_Quantity.f (rd a0 x7_0).Q).bind fun y4_14 => (if ¬(y4_14 = true) then (some (.ret false)) else (if x7_0 > 0 then (if 0 ≤ IntKind.i64.wrap (x7_0 - 1) ∧ IntKind.i64.wrap (x7_0 - 1) < (a0.length : Int) then ((stock_order.f (rd a0 x7_0).Acc (rd a0 x7_0).Inst (rd a0 (IntKind.i64.wrap (x7_0 - 1)))).bind fun y4_30 => (if y4_30 ≤ 0 then (some (.ret false)) else (stock_Right.l0 a0 k0 (IntKind.i64.wrap (x7_0 + 1))))) else none) else (stock_Right.l0 a0 k0 (IntKind.i64.wrap (x7_0 + 1))))))))) else none) else (some (.out x7_0)))
def stock_Right.f (a0 : List api_Pos) : Option Bool := ((stock_Right.l0 a0 FUEL 0).bind fun f0 => f0.go fun s0 => (some true))

def stock_Sum.l0 (a0 : List api_Pos) (a1 : Int) : Nat → List Int → Int → Option ((List Int) × Int)
  | 0, _, _ => none
  | k1 + 1, x5_1, x16_1 => (if x16_1 < (a0.length : Int) then (if 0 ≤ x16_1 ∧ x16_1 < (a0.length : Int) then (if (rd a0 x16_1).Inst = a1 then ((wide_Of.f (rd a0 x16_1).Q).bind fun y8_3 => (if x5_1.length + 1 ≤ 100000000000 then (stock_Sum.l0 a0 a1 k1 (x5_1 ++ ([y8_3])) (IntKind.i64.wrap (x16_1 + 1))) else none)) else (stock_Sum.l0 a0 a1 k1 x5_1 (IntKind.i64.wrap (x16_1 + 1)))) else none) else (some (x5_1, x16_1)))
def stock_Sum.f (a0 : List api_Pos) (a1 : Int) : Option Int := ((stock_Right.f a0).bind fun y1_1 => (if ¬(y1_1 = true) then (some 0) else ((stock_Sum.l0 a0 a1 FUEL ([] : List Int) 0).bind fun s1 => ((wide_Sum.f s1.1).bind fun y10_1 => (some y10_1.1)))))

def stock_Flat.l0 (a0 : List api_Pos) : Nat → Int → Option (Flow Int Bool)
  | 0, _ => none
  | k0 + 1, x4_0 => (if x4_0 < 6 then ((stock_Sum.f a0 x4_0).bind fun y4_2 => ((wide_Sign.f y4_2).bind fun y4_3 => (if ¬(y4_3 = 0) then (some (.ret false)) else (stock_Flat.l0 a0 k0 (IntKind.i64.wrap (x4_0 + 1)))))) else (some (.out x4_0)))
def stock_Flat.f (a0 : List api_Pos) : Option Bool := ((stock_Flat.l0 a0 FUEL 0).bind fun f0 => f0.go fun s0 => ((stock_Right.f a0).bind fun y7_1 => (some y7_1)))

def queue_Order.f (a0 : api_Order) : Option Bool := (if a0.Id ≥ 1 then (if a0.Id ≤ 1099511627776 then (if a0.Acc ≥ 1 then (if a0.Acc ≤ 24 then (if a0.Inst ≥ 0 then (if a0.Inst < 6 then (if a0.Side = 1 then (if a0.Q ≥ 1 then (if a0.Q ≤ 1000000000 then (if a0.P ≥ 1 then (some (decide (a0.P ≤ 1000000000000))) else (some false)) else (some false)) else (some false)) else (if a0.Side = 2 then (if a0.Q ≥ 1 then (if a0.Q ≤ 1000000000 then (if a0.P ≥ 1 then (some (decide (a0.P ≤ 1000000000000))) else (some false)) else (some false)) else (some false)) else (some false))) else (some false)) else (some false)) else (some false)) else (some false)) else (some false)) else (some false))

def queue_Right.l0 (a0 : List api_Order) : Nat → Int → Option (Flow Int Bool)
  | 0, _ => none
  | k0 + 1, x7_0 => (if x7_0 < (a0.length : Int) then (if 0 ≤ x7_0 ∧ x7_0 < (a0.length : Int) then ((queue_Order.f (rd a0 x7_0)).bind fun y4_1 => (if ¬(y4_1 = true) then (some (.ret false)) else (if x7_0 > 0 then (if 0 ≤ IntKind.i64.wrap (x7_0 - 1) ∧ IntKind.i64.wrap (x7_0 - 1) < (a0.length : Int) then (if (rd a0 (IntKind.i64.wrap (x7_0 - 1))).Id ≥ (rd a0 x7_0).Id then (some (.ret false)) else (queue_Right.l0 a0 k0 (IntKind.i64.wrap (x7_0 + 1)))) else none) else (queue_Right.l0 a0 k0 (IntKind.i64.wrap (x7_0 + 1)))))) else none) else (some (.out x7_0)))
def queue_Right.f (a0 : List api_Order) : Option Bool := ((queue_Right.l0 a0 FUEL 0).bind fun f0 => f0.go fun s0 => (some (decide ((a0.length : Int) ≤ 32))))

def roll_Find.l0 (a0 : List api_Acc) (a1 : Int) : Nat → Int → Option (Flow Int (api_Acc × Bool))
  | 0, _ => none
  | k1 + 1, x14_1 => (if x14_1 < (a0.length : Int) then (if 0 ≤ x14_1 ∧ x14_1 < (a0.length : Int) then (if (rd a0 x14_1).Id = a1 then (some (.ret (rd a0 x14_1, true))) else (roll_Find.l0 a0 a1 k1 (IntKind.i64.wrap (x14_1 + 1)))) else none) else (some (.out x14_1)))
def roll_Find.f (a0 : List api_Acc) (a1 : Int) : Option (api_Acc × Bool) := ((roll_Accs.f a0).bind fun y1_1 => (if ¬(y1_1 = true) then (some ((⟨0, 0, 0, 0⟩ : api_Acc), false)) else ((roll_Find.l0 a0 a1 FUEL 0).bind fun f1 => f1.go fun s1 => (some ((⟨0, 0, 0, 0⟩ : api_Acc), false)))))

def book_Acc.f (a0 : api_Book) (a1 : Int) : Option Bool := ((roll_Find.f a0.Accs a1).bind fun y1_3 => (some y1_3.2))

def mark_Price.f (a0 : Int) : Option Bool := (if a0 ≥ 1 then (some (decide (a0 ≤ 1000000000000))) else (some false))

def book_Right_1.f (a0 : Int) : Option Bool := ((mark_Price.f a0).bind fun y1_1 => (some (!y1_1)))

def slices_IndexFunc_int64_book_Right_1.l0 (a0 : List Int) : Nat → Int → Option (Flow Int Int)
  | 0, _ => none
  | k0 + 1, x8_0 => (if x8_0 < (a0.length : Int) then (if 0 ≤ x8_0 ∧ x8_0 < (a0.length : Int) then ((book_Right_1.f (rd a0 x8_0)).bind fun y4_5 => (if y4_5 = true then (some (.ret x8_0)) else (slices_IndexFunc_int64_book_Right_1.l0 a0 k0 (IntKind.i64.wrap (x8_0 + 1))))) else none) else (some (.out x8_0)))
def slices_IndexFunc_int64_book_Right_1.f (a0 : List Int) : Option Int := ((slices_IndexFunc_int64_book_Right_1.l0 a0 FUEL 0).bind fun f0 => f0.go fun s0 => (some (-1)))

def slices_ContainsFunc_int64_book_Right_1.f (a0 : List Int) : Option Bool := ((slices_IndexFunc_int64_book_Right_1.f a0).bind fun y1_2 => (some (decide (y1_2 ≥ 0))))

def book_Right.l0 (a1 : api_Book) : Nat → Int → Option (Flow Int Bool)
  | 0, _ => none
  | k1 + 1, x59_1 => (if x59_1 < (a1.Rows.length : Int) then (if 0 ≤ x59_1 ∧ x59_1 < (a1.Rows.length : Int) then (if (rd a1.Rows x59_1).Kind = 5 then ((book_Acc.f a1 (rd a1.Rows x59_1).N).bind fun y8_3 => (if ¬(y8_3 = true) then (some (.ret false)) else (book_Right.l0 a1 k1 (IntKind.i64.wrap (x59_1 + 1))))) else (if (rd a1.Rows x59_1).Kind = 6 then (if (rd a1.Rows x59_1).Kind = 6 then ((roll_Status.f a1.Members (rd a1.Rows x59_1).N).bind fun y12_4 => (if y12_4 = 0 then (some (.ret false)) else (book_Right.l0 a1 k1 (IntKind.i64.wrap (x59_1 + 1))))) else (book_Right.l0 a1 k1 (IntKind.i64.wrap (x59_1 + 1)))) else (if (rd a1.Rows x59_1).Kind = 7 then ((roll_Status.f a1.Members (rd a1.Rows x59_1).N).bind fun y12_4 => (if y12_4 = 0 then (some (.ret false)) else (book_Right.l0 a1 k1 (IntKind.i64.wrap (x59_1 + 1))))) else (book_Right.l0 a1 k1 (IntKind.i64.wrap (x59_1 + 1)))))) else none) else (some (.out x59_1)))
def book_Right.l1 (a0 : api_Config) (a1 : api_Book) : Nat → Int → Option (Flow Int Bool)
  | 0, _ => none
  | k8 + 1, x85_8 => (if x85_8 < (a1.Stock.length : Int) then (if 0 ≤ x85_8 ∧ x85_8 < (a1.Stock.length : Int) then (if ¬((rd a1.Stock x85_8).Acc = 0) then ((book_Acc.f a1 (rd a1.Stock x85_8).Acc).bind fun y18_7 => (if ¬(y18_7 = true) then (some (.ret false)) else (if (rd a1.Stock x85_8).Inst ≥ (a0.Insts.length : Int) then (some (.ret false)) else (book_Right.l1 a0 a1 k8 (IntKind.i64.wrap (x85_8 + 1)))))) else (if (rd a1.Stock x85_8).Inst ≥ (a0.Insts.length : Int) then (some (.ret false)) else (book_Right.l1 a0 a1 k8 (IntKind.i64.wrap (x85_8 + 1))))) else none) else (some (.out x85_8)))
def book_Right.l2 (a0 : api_Config) (a1 : api_Book) : Nat → Int → Option (Flow Int Bool)
  | 0, _ => none
  | k11 + 1, x111_11 => (if x111_11 < (a1.Orders.length : Int) then (if 0 ≤ x111_11 ∧ x111_11 < (a1.Orders.length : Int) then ((book_Acc.f a1 (rd a1.Orders x111_11).Acc).bind fun y24_3 => (if ¬(y24_3 = true) then (some (.ret false)) else (if (rd a1.Orders x111_11).Inst ≥ (a0.Insts.length : Int) then (some (.ret false)) else (book_Right.l2 a0 a1 k11 (IntKind.i64.wrap (x111_11 + 1)))))) else none) else (some (.out x111_11)))
def book_Right.f (a0 : api_Config) (a1 : api_Book) : Option Bool := ((plan_Right.f a0).bind fun y1_1 => (if ¬(y1_1 = true) then (some false) else ((roll_Right.f a1.Members a1.Accs).bind fun y1_8 => (if ¬(y1_8 = true) then (some false) else ((ledger_Right.f a1.Rows).bind fun y1_14 => (if ¬(y1_14 = true) then (some false) else ((ledger_Total.f a1.Rows).bind fun y1_20 => ((wide_Sign.f y1_20).bind fun y1_21 => (if ¬(y1_21 = 0) then (some false) else ((stock_Flat.f a1.Stock).bind fun y1_27 => (if ¬(y1_27 = true) then (some false) else ((queue_Right.f a1.Orders).bind fun y1_33 => (if ¬(y1_33 = true) then (some false) else (if ¬((a1.Prices.length : Int) = (a0.Insts.length : Int)) then (some false) else ((book_Right.l0 a1 FUEL 0).bind fun f1 => f1.go fun s1 => ((book_Right.l1 a0 a1 FUEL 0).bind fun f8 => f8.go fun s8 => ((book_Right.l2 a0 a1 FUEL 0).bind fun f11 => f11.go fun s11 => ((slices_ContainsFunc_int64_book_Right_1.f a1.Prices).bind fun y27_2 => (some (!y27_2))))))))))))))))))))

def standing_Live.f (a0 : Int) : Option Bool := (if a0 = 1 then (some true) else (some (a0 == 2)))

def ledger_Get.l0 (a0 : List api_Row) (a1 : Int) (a2 : Int) : Nat → Int → Option (Flow Int Int)
  | 0, _ => none
  | k1 + 1, x14_1 => (if x14_1 < (a0.length : Int) then (if 0 ≤ x14_1 ∧ x14_1 < (a0.length : Int) then (if (rd a0 x14_1).Kind = a1 then (if (rd a0 x14_1).N = a2 then (some (.ret (rd a0 x14_1).Sum)) else (ledger_Get.l0 a0 a1 a2 k1 (IntKind.i64.wrap (x14_1 + 1)))) else (ledger_Get.l0 a0 a1 a2 k1 (IntKind.i64.wrap (x14_1 + 1)))) else none) else (some (.out x14_1)))
def ledger_Get.f (a0 : List api_Row) (a1 : Int) (a2 : Int) : Option Int := ((ledger_Right.f a0).bind fun y1_1 => (if ¬(y1_1 = true) then (some 0) else ((ledger_Get.l0 a0 a1 a2 FUEL 0).bind fun f1 => f1.go fun s1 => (some 0))))

def rank_Tranche.l0 (a1 : api_Book) (a2 : List api_Deed) (a3 : Int) (a4 : Int) : Nat → List Int → Int → Option ((List Int) × Int)
  | 0, _, _ => none
  | k1 + 1, x12_1, x27_1 => (if x27_1 < (a1.Members.length : Int) then (if 0 ≤ x27_1 ∧ x27_1 < (a1.Members.length : Int) then (if ¬((rd a1.Members x27_1).Id = a3) then ((standing_Live.f (rd a1.Members x27_1).Status).bind fun y7_7 => (if y7_7 = true then ((rank_Class.f a2 (rd a1.Members x27_1).Id).bind fun y7_13 => (if y7_13 = a4 then ((ledger_Get.f a1.Rows 6 (rd a1.Members x27_1).Id).bind fun y7_22 => (if y7_22 > 0 then (if x12_1.length + 1 ≤ 100000000000 then (rank_Tranche.l0 a1 a2 a3 a4 k1 (x12_1 ++ ([(rd a1.Members x27_1).Id])) (IntKind.i64.wrap (x27_1 + 1))) else none) else (rank_Tranche.l0 a1 a2 a3 a4 k1 x12_1 (IntKind.i64.wrap (x27_1 + 1))))) else (rank_Tranche.l0 a1 a2 a3 a4 k1 x12_1 (IntKind.i64.wrap (x27_1 + 1))))) else (rank_Tranche.l0 a1 a2 a3 a4 k1 x12_1 (IntKind.i64.wrap (x27_1 + 1))))) else (rank_Tranche.l0 a1 a2 a3 a4 k1 x12_1 (IntKind.i64.wrap (x27_1 + 1)))) else none) else (some (x12_1, x27_1)))
def rank_Tranche.f (a0 : api_Config) (a1 : api_Book) (a2 : List api_Deed) (a3 : Int) (a4 : Int) : Option ((List Int) × Int) := ((book_Right.f a0 a1).bind fun y1_2 => (if ¬(y1_2 = true) then (some (([] : List Int), 1)) else ((rank_Right.f a2).bind fun y1_6 => (if ¬(y1_6 = true) then (some (([] : List Int), 1)) else ((rank_Tranche.l0 a1 a2 a3 a4 FUEL ([] : List Int) 0).bind fun s1 => (some (s1.1, 0)))))))

def novationhelp_Deeds.l0 (a0 : List api_Deed) (a1 : List api_Deed) : Nat → Int → Option (Flow Int Bool)
  | 0, _ => none
  | k1 + 1, x5_1 => (if x5_1 < (a0.length : Int) then (if 0 ≤ x5_1 ∧ x5_1 < (a0.length : Int) then (if 0 ≤ x5_1 ∧ x5_1 < (a1.length : Int) then (if ¬(((rd a0 x5_1).Member == (rd a1 x5_1).Member && (rd a0 x5_1).Class == (rd a1 x5_1).Class) = true) then (some (.ret false)) else (novationhelp_Deeds.l0 a0 a1 k1 (IntKind.i64.wrap (x5_1 + 1)))) else none) else none) else (some (.out x5_1)))
def novationhelp_Deeds.f (a0 : List api_Deed) (a1 : List api_Deed) : Option Bool := (if ¬((a0.length : Int) = (a1.length : Int)) then (some false) else ((novationhelp_Deeds.l0 a0 a1 FUEL 0).bind fun f1 => f1.go fun s1 => (some true)))

def novationhelp_Nums.l0 (a0 : List Int) (a1 : List Int) : Nat → Int → Option (Flow Int Bool)
  | 0, _ => none
  | k1 + 1, x5_1 => (if x5_1 < (a0.length : Int) then (if 0 ≤ x5_1 ∧ x5_1 < (a0.length : Int) then (if 0 ≤ x5_1 ∧ x5_1 < (a1.length : Int) then (if ¬((rd a0 x5_1) = (rd a1 x5_1)) then (some (.ret false)) else (novationhelp_Nums.l0 a0 a1 k1 (IntKind.i64.wrap (x5_1 + 1)))) else none) else none) else (some (.out x5_1)))
def novationhelp_Nums.f (a0 : List Int) (a1 : List Int) : Option Bool := (if ¬((a0.length : Int) = (a1.length : Int)) then (some false) else ((novationhelp_Nums.l0 a0 a1 FUEL 0).bind fun f1 => f1.go fun s1 => (some true)))

def novationlaw26_known.f : Option Bool := ((novationlaw26_small.f).bind fun y1_0 => ((rank_Deeds.f y1_0.1 ([] : List api_Deed) ([1, 2]) y1_0.2.2.1 y1_0.2.2.2).bind fun y2_4 => ((rank_Tranche.f y1_0.1 y1_0.2.1 y2_4.1 4 1).bind fun y3_3 => (if y2_4.2 = 0 then ((novationhelp_Deeds.f y2_4.1 ([(⟨1, 4⟩ : api_Deed), (⟨2, 1⟩ : api_Deed), (⟨3, 2⟩ : api_Deed)])).bind fun y4_8 => (if y4_8 = true then (if y3_3.2 = 0 then ((novationhelp_Nums.f y3_3.1 ([2])).bind fun y4_17 => (if y4_17 = true then ((rank_Class.f y2_4.1 1).bind fun y4_21 => (if y4_21 = 4 then ((rank_Class.f y2_4.1 9).bind fun y4_26 => (if y4_26 = 1 then ((rank_Right.f y2_4.1).bind fun y4_31 => (some y4_31)) else (some false))) else (some false))) else (some false))) else (some false)) else (some false))) else (some false)))))

def novationref26_RightDeeds.l0 (a0 : List api_Deed) : Nat → Int → Option (Flow Int Bool)
  | 0, _ => none
  | k0 + 1, x3_0 => (if x3_0 < (a0.length : Int) then (if 0 ≤ x3_0 ∧ x3_0 < (a0.length : Int) then (if (rd a0 x3_0).Member < 1 then (some (.ret false)) else (if (rd a0 x3_0).Member > 12 then (some (.ret false)) else (if (rd a0 x3_0).Class < 1 then (some (.ret false)) else (if (rd a0 x3_0).Class > 4 then (some (.ret false)) else (if x3_0 > 0 then (if 0 ≤ IntKind.i64.wrap (x3_0 - 1) ∧ IntKind.i64.wrap (x3_0 - 1) < (a0.length : Int) then (if (rd a0 x3_0).Member ≤ (rd a0 (IntKind.i64.wrap (x3_0 - 1))).Member then (some (.ret false)) else (novationref26_RightDeeds.l0 a0 k0 (IntKind.i64.wrap (x3_0 + 1)))) else none) else (novationref26_RightDeeds.l0 a0 k0 (IntKind.i64.wrap (x3_0 + 1)))))))) else none) else (some (.out x3_0)))
def novationref26_RightDeeds.f (a0 : List api_Deed) : Option Bool := ((novationref26_RightDeeds.l0 a0 FUEL 0).bind fun f0 => f0.go fun s0 => (some true))

def novationref26_Rising.l0 (a0 : List Int) : Nat → Int → Option (Flow Int Bool)
  | 0, _ => none
  | k0 + 1, x3_0 => (if x3_0 < (a0.length : Int) then (if 0 ≤ x3_0 ∧ x3_0 < (a0.length : Int) then (if (rd a0 x3_0) < 1 then (some (.ret false)) else (if (rd a0 x3_0) > 12 then (some (.ret false)) else (if x3_0 > 0 then (if 0 ≤ IntKind.i64.wrap (x3_0 - 1) ∧ IntKind.i64.wrap (x3_0 - 1) < (a0.length : Int) then (if (rd a0 x3_0) ≤ (rd a0 (IntKind.i64.wrap (x3_0 - 1))) then (some (.ret false)) else (novationref26_Rising.l0 a0 k0 (IntKind.i64.wrap (x3_0 + 1)))) else none) else (novationref26_Rising.l0 a0 k0 (IntKind.i64.wrap (x3_0 + 1)))))) else none) else (some (.out x3_0)))
def novationref26_Rising.f (a0 : List Int) : Option Bool := ((novationref26_Rising.l0 a0 FUEL 0).bind fun f0 => f0.go fun s0 => (some true))

def novationref4_within.f (a0 : Int) (a1 : Int) (a2 : Int) : Option Bool := (if a0 ≥ a1 then (some (decide (a0 ≤ a2))) else (some false))

def novationref4_RightPlan.l0 (a0 : api_Config) : Nat → Int → Option (Flow Int Bool)
  | 0, _ => none
  | k1 + 1, x3_1 => (if x3_1 < (a0.Insts.length : Int) then (if 0 ≤ x3_1 ∧ x3_1 < (a0.Insts.length : Int) then ((novationref4_within.f (rd a0.Insts x3_1).Bucket 0 3).bind fun y7_2 => (if ¬(y7_2 = true) then (some (.ret false)) else ((novationref4_within.f (rd a0.Insts x3_1).Price 1 1000000000000).bind fun y7_7 => (if ¬(y7_7 = true) then (some (.ret false)) else ((novationref4_within.f (rd a0.Insts x3_1).Rate 0 1000000000).bind fun y7_13 => (if ¬(y7_13 = true) then (some (.ret false)) else ((novationref4_within.f (rd a0.Insts x3_1).Slip 0 1000000000).bind fun y7_19 => (if ¬(y7_19 = true) then (some (.ret false)) else (novationref4_RightPlan.l0 a0 k1 (IntKind.i64.wrap (x3_1 + 1))))))))))) else none) else (some (.out x3_1)))
def novationref4_RightPlan.f (a0 : api_Config) : Option Bool := (if (a0.Insts.length : Int) < 1 then (some false) else (if (a0.Insts.length : Int) > 6 then (some false) else ((novationref4_RightPlan.l0 a0 FUEL 0).bind fun f1 => f1.go fun s1 => (if a0.Skin ≥ 0 then ((novationref4_within.f a0.Times 0 4).bind fun y9_6 => (if y9_6 = true then ((novationref4_within.f a0.Port 0 1000000).bind fun y9_11 => (if y9_11 = true then ((novationref4_within.f a0.Bid 0 1000000).bind fun y9_16 => (if y9_16 = true then ((novationref4_within.f a0.LotSize 1 4611686018427387904).bind fun y9_21 => (if y9_21 = true then (some (decide (a0.HedgeMin ≥ 0))) else (some false))) else (some false))) else (some false))) else (some false))) else (some false)))))

def novationref10_Legs.l0 (a0 : api_Config) (a1 : List api_Leg) : Nat → Int → Option (Flow Int Bool)
  | 0, _ => none
  | k1 + 1, x5_1 => (if x5_1 < (a1.length : Int) then (if 0 ≤ x5_1 ∧ x5_1 < (a1.length : Int) then (if (rd a1 x5_1).Inst < 0 then (some (.ret false)) else (if (rd a1 x5_1).Inst ≥ (a0.Insts.length : Int) then (some (.ret false)) else (if (rd a1 x5_1).Q = 0 then (some (.ret false)) else (if (rd a1 x5_1).Q = (-9223372036854775808) then (some (.ret false)) else (if x5_1 > 0 then (if 0 ≤ IntKind.i64.wrap (x5_1 - 1) ∧ IntKind.i64.wrap (x5_1 - 1) < (a1.length : Int) then (if (rd a1 x5_1).Inst ≤ (rd a1 (IntKind.i64.wrap (x5_1 - 1))).Inst then (some (.ret false)) else (novationref10_Legs.l0 a0 a1 k1 (IntKind.i64.wrap (x5_1 + 1)))) else none) else (novationref10_Legs.l0 a0 a1 k1 (IntKind.i64.wrap (x5_1 + 1)))))))) else none) else (some (.out x5_1)))
def novationref10_Legs.f (a0 : api_Config) (a1 : List api_Leg) : Option Bool := ((novationref4_RightPlan.f a0).bind fun y1_1 => (if ¬(y1_1 = true) then (some false) else ((novationref10_Legs.l0 a0 a1 FUEL 0).bind fun f1 => f1.go fun s1 => (some true))))

def novationref20_RightLots.l0 (a0 : api_Config) (a1 : List api_Lot) : Nat → Int → Option (Flow Int Bool)
  | 0, _ => none
  | k1 + 1, x5_1 => (if x5_1 < (a1.length : Int) then (if 0 ≤ x5_1 ∧ x5_1 < (a1.length : Int) then (if (rd a1 x5_1).Id < 1 then (some (.ret false)) else (if (rd a1 x5_1).Id > 1099511627776 then (some (.ret false)) else (if x5_1 > 0 then (if 0 ≤ IntKind.i64.wrap (x5_1 - 1) ∧ IntKind.i64.wrap (x5_1 - 1) < (a1.length : Int) then (if (rd a1 x5_1).Id ≤ (rd a1 (IntKind.i64.wrap (x5_1 - 1))).Id then (some (.ret false)) else (if ((rd a1 x5_1).Legs.length : Int) = 0 then (some (.ret false)) else ((novationref10_Legs.f a0 (rd a1 x5_1).Legs).bind fun y7_33 => (if ¬(y7_33 = true) then (some (.ret false)) else (if (rd a1 x5_1).Ref > 0 then (some (.ret false)) else (if (rd a1 x5_1).State = 1 then (if (rd a1 x5_1).State = 1 then (if ¬((rd a1 x5_1).Winner = 0) then (some (.ret false)) else (if ¬((rd a1 x5_1).Price = 0) then (some (.ret false)) else (novationref20_RightLots.l0 a0 a1 k1 (IntKind.i64.wrap (x5_1 + 1))))) else (if (rd a1 x5_1).State = 2 then (if (rd a1 x5_1).Winner < 1 then (some (.ret false)) else (if (rd a1 x5_1).Winner > 12 then (some (.ret false)) else (if (rd a1 x5_1).Price < (-1152921504606846976) then (some (.ret false)) else (if (rd a1 x5_1).Price > 1152921504606846976 then (some (.ret false)) else (novationref20_RightLots.l0 a0 a1 k1 (IntKind.i64.wrap (x5_1 + 1))))))) else (some (.ret false)))) else (if (rd a1 x5_1).State = 3 then (if ¬((rd a1 x5_1).Winner = 0) then (some (.ret false)) else (if ¬((rd a1 x5_1).Price = 0) then (some (.ret false)) else (novationref20_RightLots.l0 a0 a1 k1 (IntKind.i64.wrap (x5_1 + 1))))) else (if (rd a1 x5_1).State = 2 then (if (rd a1 x5_1).Winner < 1 then (some (.ret false)) else (if (rd a1 x5_1).Winner > 12 then (some (.ret false)) else (if (rd a1 x5_1).Price < (-1152921504606846976) then (some (.ret false)) else (if (rd a1 x5_1).Price > 1152921504606846976 then (some (.ret false)) else (novationref20_RightLots.l0 a0 a1 k1 (IntKind.i64.wrap (x5_1 + 1))))))) else (some (.ret false)))))))))) else none) else (if ((rd a1 x5_1).Legs.length : Int) = 0 then (some (.ret false)) else ((novationref10_Legs.f a0 (rd a1 x5_1).Legs).bind fun y7_33 => (if ¬(y7_33 = true) then (some (.ret false)) else (if (rd a1 x5_1).Ref > 0 then (some (.ret false)) else (if (rd a1 x5_1).State = 1 then (if (rd a1 x5_1).State = 1 then (if ¬((rd a1 x5_1).Winner = 0) then (some (.ret false)) else (if ¬((rd a1 x5_1).Price = 0) then (some (.ret false)) else (novationref20_RightLots.l0 a0 a1 k1 (IntKind.i64.wrap (x5_1 + 1))))) else (if (rd a1 x5_1).State = 2 then (if (rd a1 x5_1).Winner < 1 then (some (.ret false)) else (if (rd a1 x5_1).Winner > 12 then (some (.ret false)) else (if (rd a1 x5_1).Price < (-1152921504606846976) then (some (.ret false)) else (if (rd a1 x5_1).Price > 1152921504606846976 then (some (.ret false)) else (novationref20_RightLots.l0 a0 a1 k1 (IntKind.i64.wrap (x5_1 + 1))))))) else (some (.ret false)))) else (if (rd a1 x5_1).State = 3 then (if ¬((rd a1 x5_1).Winner = 0) then (some (.ret false)) else (if ¬((rd a1 x5_1).Price = 0) then (some (.ret false)) else (novationref20_RightLots.l0 a0 a1 k1 (IntKind.i64.wrap (x5_1 + 1))))) else (if (rd a1 x5_1).State = 2 then (if (rd a1 x5_1).Winner < 1 then (some (.ret false)) else (if (rd a1 x5_1).Winner > 12 then (some (.ret false)) else (if (rd a1 x5_1).Price < (-1152921504606846976) then (some (.ret false)) else (if (rd a1 x5_1).Price > 1152921504606846976 then (some (.ret false)) else (novationref20_RightLots.l0 a0 a1 k1 (IntKind.i64.wrap (x5_1 + 1))))))) else (some (.ret false)))))))))))) else none) else (some (.out x5_1)))
def novationref20_RightLots.f (a0 : api_Config) (a1 : List api_Lot) : Option Bool := ((novationref4_RightPlan.f a0).bind fun y1_1 => (if ¬(y1_1 = true) then (some false) else (if (a1.length : Int) > 12 then (some false) else ((novationref20_RightLots.l0 a0 a1 FUEL 0).bind fun f1 => f1.go fun s1 => (some true)))))

def novationref20_RightBid.f (a0 : api_Bid) : Option Bool := (if a0.Seq ≥ 1 then (if a0.Seq ≤ 1099511627776 then (if a0.Lot ≥ 1 then (if a0.Lot ≤ 1099511627776 then (if a0.Member ≥ 1 then (if a0.Member ≤ 12 then (if a0.Price ≥ (-1152921504606846976) then (some (decide (a0.Price ≤ 1152921504606846976))) else (some false)) else (some false)) else (some false)) else (some false)) else (some false)) else (some false)) else (some false))

def novationref20_RightBids.l1 (a0 : List api_Bid) (x3_1 : Int) : Nat → Int → Option (Flow Int Bool)
  | 0, _ => none
  | k4 + 1, x4_4 => (if x4_4 < x3_1 then (if 0 ≤ x4_4 ∧ x4_4 < (a0.length : Int) then (if (rd a0 x4_4).Member = (rd a0 x3_1).Member then (if (rd a0 x4_4).Lot = (rd a0 x3_1).Lot then (some (.ret false)) else (novationref20_RightBids.l1 a0 x3_1 k4 (IntKind.i64.wrap (x4_4 + 1)))) else (novationref20_RightBids.l1 a0 x3_1 k4 (IntKind.i64.wrap (x4_4 + 1)))) else none) else (some (.out x4_4)))
def novationref20_RightBids.l2 (a0 : List api_Bid) (x3_1 : Int) : Nat → Int → Option (Flow Int Bool)
  | 0, _ => none
  | k4 + 1, x4_4 => (if x4_4 < x3_1 then (if 0 ≤ x4_4 ∧ x4_4 < (a0.length : Int) then (if (rd a0 x4_4).Member = (rd a0 x3_1).Member then (if (rd a0 x4_4).Lot = (rd a0 x3_1).Lot then (some (.ret false)) else (novationref20_RightBids.l2 a0 x3_1 k4 (IntKind.i64.wrap (x4_4 + 1)))) else (novationref20_RightBids.l2 a0 x3_1 k4 (IntKind.i64.wrap (x4_4 + 1)))) else none) else (some (.out x4_4)))
def novationref20_RightBids.l0 (a0 : List api_Bid) : Nat → Int → Option (Flow Int Bool)
  | 0, _ => none
  | k1 + 1, x3_1 => (if x3_1 < (a0.length : Int) then (if 0 ≤ x3_1 ∧ x3_1 < (a0.length : Int) then ((novationref20_RightBid.f (rd a0 x3_1)).bind fun y6_4 => (if ¬(y6_4 = true) then (some (.ret false)) else (if x3_1 > 0 then (if 0 ≤ IntKind.i64.wrap (x3_1 - 1) ∧ IntKind.i64.wrap (x3_1 - 1) < (a0.length : Int) then (if (rd a0 x3_1).Seq ≤ (rd a0 (IntKind.i64.wrap (x3_1 - 1))).Seq then (some (.ret false)) else ((novationref20_RightBids.l1 a0 x3_1 FUEL 0).bind fun f4 => f4.goL fun s4 => (novationref20_RightBids.l0 a0 k1 (IntKind.i64.wrap (x3_1 + 1))))) else none) else ((novationref20_RightBids.l2 a0 x3_1 FUEL 0).bind fun f4 => f4.goL fun s4 => (novationref20_RightBids.l0 a0 k1 (IntKind.i64.wrap (x3_1 + 1))))))) else none) else (some (.out x3_1)))
def novationref20_RightBids.f (a0 : List api_Bid) : Option Bool := (if (a0.length : Int) > 40 then (some false) else ((novationref20_RightBids.l0 a0 FUEL 0).bind fun f1 => f1.go fun s1 => (some true)))

def novationref20_FindLot.l0 (a0 : List api_Lot) (a1 : Int) : Nat → Int → Option (Flow Int (api_Lot × Bool))
  | 0, _ => none
  | k0 + 1, x6_0 => (if x6_0 < (a0.length : Int) then (if 0 ≤ x6_0 ∧ x6_0 < (a0.length : Int) then (if (rd a0 x6_0).Id = a1 then (some (.ret (rd a0 x6_0, true))) else (novationref20_FindLot.l0 a0 a1 k0 (IntKind.i64.wrap (x6_0 + 1)))) else none) else (some (.out x6_0)))
def novationref20_FindLot.f (a0 : List api_Lot) (a1 : Int) : Option (api_Lot × Bool) := ((novationref20_FindLot.l0 a0 a1 FUEL 0).bind fun f0 => f0.go fun s0 => (some ((⟨0, ([] : List api_Leg), 0, 0, 0, 0⟩ : api_Lot), false)))

def novationref26_class.l0 (a0 : Int) (a1 : List api_Lot) (a2 : List api_Bid) : Nat → Int → Int → Option (Int × Int)
  | 0, _, _ => none
  | k0 + 1, x7_0, x8_0 => (if x8_0 < (a2.length : Int) then (if 0 ≤ x8_0 ∧ x8_0 < (a2.length : Int) then (if ¬((rd a2 x8_0).Member = a0) then (novationref26_class.l0 a0 a1 a2 k0 x7_0 (IntKind.i64.wrap (x8_0 + 1))) else ((novationref20_FindLot.f a1 (rd a2 x8_0).Lot).bind fun y7_6 => (if y7_6.2 = true then (if (rd a2 x8_0).Price ≥ y7_6.1.Ref then (novationref26_class.l0 a0 a1 a2 k0 (if 3 > x7_0 then 3 else x7_0) (IntKind.i64.wrap (x8_0 + 1))) else (novationref26_class.l0 a0 a1 a2 k0 (if 2 > x7_0 then 2 else x7_0) (IntKind.i64.wrap (x8_0 + 1)))) else (novationref26_class.l0 a0 a1 a2 k0 (if 2 > x7_0 then 2 else x7_0) (IntKind.i64.wrap (x8_0 + 1)))))) else none) else (some (x7_0, x8_0)))
def novationref26_class.l1 (a0 : Int) (a1 : List api_Lot) : Nat → Int → Int → Option (Int × Int)
  | 0, _, _ => none
  | k4 + 1, x7_4, x12_4 => (if x12_4 < (a1.length : Int) then (if 0 ≤ x12_4 ∧ x12_4 < (a1.length : Int) then (if (rd a1 x12_4).State = 2 then (if (rd a1 x12_4).Winner = a0 then (novationref26_class.l1 a0 a1 k4 4 (IntKind.i64.wrap (x12_4 + 1))) else (novationref26_class.l1 a0 a1 k4 x7_4 (IntKind.i64.wrap (x12_4 + 1)))) else (novationref26_class.l1 a0 a1 k4 x7_4 (IntKind.i64.wrap (x12_4 + 1)))) else none) else (some (x7_4, x12_4)))
def novationref26_class.f (a0 : Int) (a1 : List api_Lot) (a2 : List api_Bid) : Option Int := ((novationref26_class.l0 a0 a1 a2 FUEL 1 0).bind fun s0 => ((novationref26_class.l1 a0 a1 FUEL s0.1 0).bind fun s4 => (some s4.1)))

def novationref26_Deeds.l1 (a1 : List api_Deed) (x13_1 : Int) : Nat → Int → Bool → Int → Option (Int × Bool × Int)
  | 0, _, _, _ => none
  | k3 + 1, x14_3, x15_3, x16_3 => (if x16_3 < (a1.length : Int) then (if 0 ≤ x16_3 ∧ x16_3 < (a1.length : Int) then (if (rd a1 x16_3).Member = x13_1 then (novationref26_Deeds.l1 a1 x13_1 k3 (rd a1 x16_3).Class true (IntKind.i64.wrap (x16_3 + 1))) else (novationref26_Deeds.l1 a1 x13_1 k3 x14_3 x15_3 (IntKind.i64.wrap (x16_3 + 1)))) else none) else (some (x14_3, x15_3, x16_3)))
def novationref26_Deeds.l2 (a2 : List Int) (x13_1 : Int) : Nat → Bool → Int → Option (Bool × Int)
  | 0, _, _ => none
  | k6 + 1, x15_6, x17_6 => (if x17_6 < (a2.length : Int) then (if x15_6 = true then (novationref26_Deeds.l2 a2 x13_1 k6 true (IntKind.i64.wrap (x17_6 + 1))) else (if 0 ≤ x17_6 ∧ x17_6 < (a2.length : Int) then (novationref26_Deeds.l2 a2 x13_1 k6 ((rd a2 x17_6) == x13_1) (IntKind.i64.wrap (x17_6 + 1))) else none)) else (some (x15_6, x17_6)))
def novationref26_Deeds.l3 (a4 : List api_Bid) (x13_1 : Int) : Nat → Bool → Int → Option (Bool × Int)
  | 0, _, _ => none
  | k8 + 1, x15_8, x18_8 => (if x18_8 < (a4.length : Int) then (if x15_8 = true then (novationref26_Deeds.l3 a4 x13_1 k8 true (IntKind.i64.wrap (x18_8 + 1))) else (if 0 ≤ x18_8 ∧ x18_8 < (a4.length : Int) then (novationref26_Deeds.l3 a4 x13_1 k8 ((rd a4 x18_8).Member == x13_1) (IntKind.i64.wrap (x18_8 + 1))) else none)) else (some (x15_8, x18_8)))
def novationref26_Deeds.l0 (a1 : List api_Deed) (a2 : List Int) (a3 : List api_Lot) (a4 : List api_Bid) : Nat → List api_Deed → Int → Option ((List api_Deed) × Int)
  | 0, _, _ => none
  | k1 + 1, x12_1, x13_1 => (if x13_1 ≤ 12 then ((novationref26_Deeds.l1 a1 x13_1 FUEL 0 false 0).bind fun s3 => ((novationref26_Deeds.l2 a2 x13_1 FUEL s3.2.1 0).bind fun s6 => ((novationref26_Deeds.l3 a4 x13_1 FUEL s6.1 0).bind fun s8 => (if s8.1 = true then ((novationref26_class.f x13_1 a3 a4).bind fun y22_6 => (if x12_1.length + 1 ≤ 100000000000 then (novationref26_Deeds.l0 a1 a2 a3 a4 k1 (x12_1 ++ ([(⟨x13_1, (if y22_6 > s3.1 then y22_6 else s3.1)⟩ : api_Deed)])) (IntKind.i64.wrap (x13_1 + 1))) else none)) else (novationref26_Deeds.l0 a1 a2 a3 a4 k1 x12_1 (IntKind.i64.wrap (x13_1 + 1))))))) else (some (x12_1, x13_1)))
def novationref26_Deeds.f (a0 : api_Config) (a1 : List api_Deed) (a2 : List Int) (a3 : List api_Lot) (a4 : List api_Bid) : Option ((List api_Deed) × Int) := ((novationref26_RightDeeds.f a1).bind fun y1_1 => (if ¬(y1_1 = true) then (some (([] : List api_Deed), 1)) else ((novationref26_Rising.f a2).bind fun y1_5 => (if ¬(y1_5 = true) then (some (([] : List api_Deed), 1)) else ((novationref20_RightLots.f a0 a3).bind fun y1_11 => (if ¬(y1_11 = true) then (some (([] : List api_Deed), 1)) else ((novationref20_RightBids.f a4).bind fun y1_16 => (if ¬(y1_16 = true) then (some (([] : List api_Deed), 1)) else ((novationref26_Deeds.l0 a1 a2 a3 a4 FUEL ([] : List api_Deed) 1).bind fun s1 => (some (s1.1, 0)))))))))))

def novationref10_Members.l0 (a0 : List api_Member) : Nat → Int → Option (Flow Int Bool)
  | 0, _ => none
  | k0 + 1, x3_0 => (if x3_0 < (a0.length : Int) then (if 0 ≤ x3_0 ∧ x3_0 < (a0.length : Int) then (if (rd a0 x3_0).Id < 1 then (some (.ret false)) else (if (rd a0 x3_0).Id > 12 then (some (.ret false)) else (if (rd a0 x3_0).Status < 1 then (some (.ret false)) else (if (rd a0 x3_0).Status > 4 then (some (.ret false)) else (if x3_0 > 0 then (if 0 ≤ IntKind.i64.wrap (x3_0 - 1) ∧ IntKind.i64.wrap (x3_0 - 1) < (a0.length : Int) then (if (rd a0 x3_0).Id ≤ (rd a0 (IntKind.i64.wrap (x3_0 - 1))).Id then (some (.ret false)) else (novationref10_Members.l0 a0 k0 (IntKind.i64.wrap (x3_0 + 1)))) else none) else (novationref10_Members.l0 a0 k0 (IntKind.i64.wrap (x3_0 + 1)))))))) else none) else (some (.out x3_0)))
def novationref10_Members.f (a0 : List api_Member) : Option Bool := ((novationref10_Members.l0 a0 FUEL 0).bind fun f0 => f0.go fun s0 => (some true))

def novationref10_Accs.l1 (a0 : List api_Acc) (x3_0 : Int) : Nat → Int → Option (Flow Int Bool)
  | 0, _ => none
  | k3 + 1, x5_3 => (if x5_3 < x3_0 then (if (rd a0 x3_0).Kind = 1 then (if 0 ≤ x5_3 ∧ x5_3 < (a0.length : Int) then (if (rd a0 x5_3).Kind = 1 then (if (rd a0 x5_3).Member = (rd a0 x3_0).Member then (some (.ret false)) else (novationref10_Accs.l1 a0 x3_0 k3 (IntKind.i64.wrap (x5_3 + 1)))) else (novationref10_Accs.l1 a0 x3_0 k3 (IntKind.i64.wrap (x5_3 + 1)))) else none) else (novationref10_Accs.l1 a0 x3_0 k3 (IntKind.i64.wrap (x5_3 + 1)))) else (some (.out x5_3)))
def novationref10_Accs.l2 (a0 : List api_Acc) (x3_0 : Int) : Nat → Int → Option (Flow Int Bool)
  | 0, _ => none
  | k3 + 1, x5_3 => (if x5_3 < x3_0 then (if (rd a0 x3_0).Kind = 1 then (if 0 ≤ x5_3 ∧ x5_3 < (a0.length : Int) then (if (rd a0 x5_3).Kind = 1 then (if (rd a0 x5_3).Member = (rd a0 x3_0).Member then (some (.ret false)) else (novationref10_Accs.l2 a0 x3_0 k3 (IntKind.i64.wrap (x5_3 + 1)))) else (novationref10_Accs.l2 a0 x3_0 k3 (IntKind.i64.wrap (x5_3 + 1)))) else none) else (novationref10_Accs.l2 a0 x3_0 k3 (IntKind.i64.wrap (x5_3 + 1)))) else (some (.out x5_3)))
def novationref10_Accs.l3 (a0 : List api_Acc) (x3_0 : Int) : Nat → Int → Option (Flow Int Bool)
  | 0, _ => none
  | k3 + 1, x5_3 => (if x5_3 < x3_0 then (if (rd a0 x3_0).Kind = 1 then (if 0 ≤ x5_3 ∧ x5_3 < (a0.length : Int) then (if (rd a0 x5_3).Kind = 1 then (if (rd a0 x5_3).Member = (rd a0 x3_0).Member then (some (.ret false)) else (novationref10_Accs.l3 a0 x3_0 k3 (IntKind.i64.wrap (x5_3 + 1)))) else (novationref10_Accs.l3 a0 x3_0 k3 (IntKind.i64.wrap (x5_3 + 1)))) else none) else (novationref10_Accs.l3 a0 x3_0 k3 (IntKind.i64.wrap (x5_3 + 1)))) else (some (.out x5_3)))
def novationref10_Accs.l4 (a0 : List api_Acc) (x3_0 : Int) : Nat → Int → Option (Flow Int Bool)
  | 0, _ => none
  | k3 + 1, x5_3 => (if x5_3 < x3_0 then (if (rd a0 x3_0).Kind = 1 then (if 0 ≤ x5_3 ∧ x5_3 < (a0.length : Int) then (if (rd a0 x5_3).Kind = 1 then (if (rd a0 x5_3).Member = (rd a0 x3_0).Member then (some (.ret false)) else (novationref10_Accs.l4 a0 x3_0 k3 (IntKind.i64.wrap (x5_3 + 1)))) else (novationref10_Accs.l4 a0 x3_0 k3 (IntKind.i64.wrap (x5_3 + 1)))) else none) else (novationref10_Accs.l4 a0 x3_0 k3 (IntKind.i64.wrap (x5_3 + 1)))) else (some (.out x5_3)))
def novationref10_Accs.l0 (a0 : List api_Acc) : Nat → Int → Option (Flow Int Bool)
  | 0, _ => none
  | k0 + 1, x3_0 => (if x3_0 < (a0.length : Int) then (if 0 ≤ x3_0 ∧ x3_0 < (a0.length : Int) then (if (rd a0 x3_0).Id < 1 then (some (.ret false)) else (if (rd a0 x3_0).Id > 24 then (some (.ret false)) else (if (rd a0 x3_0).Member < 1 then (some (.ret false)) else (if (rd a0 x3_0).Member > 12 then (some (.ret false)) else (if ¬((rd a0 x3_0).Kind = 1) then (if ¬((rd a0 x3_0).Kind = 2) then (some (.ret false)) else (if (rd a0 x3_0).Limit < 0 then (some (.ret false)) else (if (rd a0 x3_0).Limit > 1000000000000 then (some (.ret false)) else (if x3_0 > 0 then (if 0 ≤ IntKind.i64.wrap (x3_0 - 1) ∧ IntKind.i64.wrap (x3_0 - 1) < (a0.length : Int) then (if (rd a0 x3_0).Id ≤ (rd a0 (IntKind.i64.wrap (x3_0 - 1))).Id then (some (.ret false)) else ((novationref10_Accs.l1 a0 x3_0 FUEL 0).bind fun f3 => f3.goL fun s3 => (novationref10_Accs.l0 a0 k0 (IntKind.i64.wrap (x3_0 + 1))))) else none) else ((novationref10_Accs.l2 a0 x3_0 FUEL 0).bind fun f3 => f3.goL fun s3 => (novationref10_Accs.l0 a0 k0 (IntKind.i64.wrap (x3_0 + 1)))))))) else (if (rd a0 x3_0).Limit < 0 then (some (.ret false)) else (if (rd a0 x3_0).Limit > 1000000000000 then (some (.ret false)) else (if x3_0 > 0 then (if 0 ≤ IntKind.i64.wrap (x3_0 - 1) ∧ IntKind.i64.wrap (x3_0 - 1) < (a0.length : Int) then (if (rd a0 x3_0).Id ≤ (rd a0 (IntKind.i64.wrap (x3_0 - 1))).Id then (some (.ret false)) else ((novationref10_Accs.l3 a0 x3_0 FUEL 0).bind fun f3 => f3.goL fun s3 => (novationref10_Accs.l0 a0 k0 (IntKind.i64.wrap (x3_0 + 1))))) else none) else ((novationref10_Accs.l4 a0 x3_0 FUEL 0).bind fun f3 => f3.goL fun s3 => (novationref10_Accs.l0 a0 k0 (IntKind.i64.wrap (x3_0 + 1)))))))))))) else none) else (some (.out x3_0)))
def novationref10_Accs.f (a0 : List api_Acc) : Option Bool := ((novationref10_Accs.l0 a0 FUEL 0).bind fun f0 => f0.go fun s0 => (some true))

def novationref10_status.l0 (a0 : List api_Member) (a1 : Int) : Nat → Int → Option (Flow Int Int)
  | 0, _ => none
  | k0 + 1, x5_0 => (if x5_0 < (a0.length : Int) then (if 0 ≤ x5_0 ∧ x5_0 < (a0.length : Int) then (if (rd a0 x5_0).Id = a1 then (some (.ret (rd a0 x5_0).Status)) else (novationref10_status.l0 a0 a1 k0 (IntKind.i64.wrap (x5_0 + 1)))) else none) else (some (.out x5_0)))
def novationref10_status.f (a0 : List api_Member) (a1 : Int) : Option Int := ((novationref10_status.l0 a0 a1 FUEL 0).bind fun f0 => f0.go fun s0 => (some 0))

def novationref10_RightRoll.l0 (a0 : List api_Member) (a1 : List api_Acc) : Nat → Int → Option (Flow Int Bool)
  | 0, _ => none
  | k1 + 1, x5_1 => (if x5_1 < (a1.length : Int) then (if 0 ≤ x5_1 ∧ x5_1 < (a1.length : Int) then ((novationref10_status.f a0 (rd a1 x5_1).Member).bind fun y6_6 => (if y6_6 = 0 then (some (.ret false)) else (novationref10_RightRoll.l0 a0 a1 k1 (IntKind.i64.wrap (x5_1 + 1))))) else none) else (some (.out x5_1)))
def novationref10_RightRoll.f (a0 : List api_Member) (a1 : List api_Acc) : Option Bool := ((novationref10_Members.f a0).bind fun y1_1 => (if ¬(y1_1 = true) then (some false) else ((novationref10_Accs.f a1).bind fun y1_5 => (if ¬(y1_5 = true) then (some false) else ((novationref10_RightRoll.l0 a0 a1 FUEL 0).bind fun f1 => f1.go fun s1 => (some true))))))

def novationref10_Key.f (a0 : Int) (a1 : Int) : Option Bool := (if a0 = 1 then (if a0 = 1 then (some (a1 == 0)) else (if a0 = 5 then (if a1 ≥ 1 then (some (decide (a1 ≤ 24))) else (some false)) else (if a0 = 6 then (if a0 = 6 then (if a1 ≥ 1 then (some (decide (a1 ≤ 12))) else (some false)) else (some false)) else (if a0 = 7 then (if a1 ≥ 1 then (some (decide (a1 ≤ 12))) else (some false)) else (some false))))) else (if a0 = 2 then (if a0 = 2 then (some (a1 == 0)) else (if a0 = 5 then (if a1 ≥ 1 then (some (decide (a1 ≤ 24))) else (some false)) else (if a0 = 6 then (if a0 = 6 then (if a1 ≥ 1 then (some (decide (a1 ≤ 12))) else (some false)) else (some false)) else (if a0 = 7 then (if a1 ≥ 1 then (some (decide (a1 ≤ 12))) else (some false)) else (some false))))) else (if a0 = 3 then (if a0 = 3 then (some (a1 == 0)) else (if a0 = 5 then (if a1 ≥ 1 then (some (decide (a1 ≤ 24))) else (some false)) else (if a0 = 6 then (if a0 = 6 then (if a1 ≥ 1 then (some (decide (a1 ≤ 12))) else (some false)) else (some false)) else (if a0 = 7 then (if a1 ≥ 1 then (some (decide (a1 ≤ 12))) else (some false)) else (some false))))) else (if a0 = 4 then (some (a1 == 0)) else (if a0 = 5 then (if a1 ≥ 1 then (some (decide (a1 ≤ 24))) else (some false)) else (if a0 = 6 then (if a0 = 6 then (if a1 ≥ 1 then (some (decide (a1 ≤ 12))) else (some false)) else (some false)) else (if a0 = 7 then (if a1 ≥ 1 then (some (decide (a1 ≤ 12))) else (some false)) else (some false))))))))

def novationref10_Rows.l0 (a0 : List api_Row) : Nat → Int → Option (Flow Int Bool)
  | 0, _ => none
  | k0 + 1, x3_0 => (if x3_0 < (a0.length : Int) then (if 0 ≤ x3_0 ∧ x3_0 < (a0.length : Int) then ((novationref10_Key.f (rd a0 x3_0).Kind (rd a0 x3_0).N).bind fun y4_10 => (if ¬(y4_10 = true) then (some (.ret false)) else (if (rd a0 x3_0).Sum = 0 then (some (.ret false)) else (if x3_0 > 0 then (if 0 ≤ IntKind.i64.wrap (x3_0 - 1) ∧ IntKind.i64.wrap (x3_0 - 1) < (a0.length : Int) then (if (rd a0 x3_0).Kind < (rd a0 (IntKind.i64.wrap (x3_0 - 1))).Kind then (some (.ret false)) else (if (rd a0 x3_0).Kind = (rd a0 (IntKind.i64.wrap (x3_0 - 1))).Kind then (if (rd a0 x3_0).N ≤ (rd a0 (IntKind.i64.wrap (x3_0 - 1))).N then (some (.ret false)) else (novationref10_Rows.l0 a0 k0 (IntKind.i64.wrap (x3_0 + 1)))) else (novationref10_Rows.l0 a0 k0 (IntKind.i64.wrap (x3_0 + 1))))) else none) else (novationref10_Rows.l0 a0 k0 (IntKind.i64.wrap (x3_0 + 1))))))) else none) else (some (.out x3_0)))
def novationref10_Rows.f (a0 : List api_Row) : Option Bool := ((novationref10_Rows.l0 a0 FUEL 0).bind fun f0 => f0.go fun s0 => (some true))

def novationref10_Stock.l0 (a0 : List api_Pos) : Nat → Int → Option (Flow Int Bool)
  | 0, _ => none
  | k0 + 1, x3_0 => (if x3_0 < (a0.length : Int) then (if 0 ≤ x3_0 ∧ x3_0 < (a0.length : Int) then (if (rd a0 x3_0).Acc < 0 then (some (.ret false)) else (if (rd a0 x3_0).Acc > 24 then (some (.ret false)) else (if (rd a0 x3_0).Inst < 0 then (some (.ret false)) else (if (rd a0 x3_0).Inst ≥ 6 then (some (.ret false)) else (if (rd a0 x3_0).Q = 0 then (some (.ret false)) else (if (rd a0 x3_0).Q = (-9223372036854775808) then (some (.ret false)) else (if x3_0 > 0 then (if 0 ≤ IntKind.i64.wrap (x3_0 - 1) ∧ IntKind.i64.wrap (x3_0 - 1) < (a0.length : Int) then (if (rd a0 x3_0).Acc < (rd a0 (IntKind.i64.wrap (x3_0 - 1))).Acc then (some (.ret false)) else (if (rd a0 x3_0).Acc = (rd a0 (IntKind.i64.wrap (x3_0 - 1))).Acc then (if (rd a0 x3_0).Inst ≤ (rd a0 (IntKind.i64.wrap (x3_0 - 1))).Inst then (some (.ret false)) else (novationref10_Stock.l0 a0 k0 (IntKind.i64.wrap (x3_0 + 1)))) else (novationref10_Stock.l0 a0 k0 (IntKind.i64.wrap (x3_0 + 1))))) else none) else (novationref10_Stock.l0 a0 k0 (IntKind.i64.wrap (x3_0 + 1)))))))))) else none) else (some (.out x3_0)))
def novationref10_Stock.f (a0 : List api_Pos) : Option Bool := ((novationref10_Stock.l0 a0 FUEL 0).bind fun f0 => f0.go fun s0 => (some true))

def novationref10_SumInst.l0 (a0 : List api_Pos) (a1 : Int) : Nat → Int → Int → Option (Int × Int)
  | 0, _, _ => none
  | k1 + 1, x5_1, x6_1 => (if x6_1 < (a0.length : Int) then (if 0 ≤ x6_1 ∧ x6_1 < (a0.length : Int) then (if (rd a0 x6_1).Inst = a1 then ((novationref1_Whole.f (rd a0 x6_1).Q).bind fun y8_6 => ((novationref1_Plus.f x5_1 y8_6).bind fun y8_7 => (novationref10_SumInst.l0 a0 a1 k1 y8_7 (IntKind.i64.wrap (x6_1 + 1))))) else (novationref10_SumInst.l0 a0 a1 k1 x5_1 (IntKind.i64.wrap (x6_1 + 1)))) else none) else (some (x5_1, x6_1)))
def novationref10_SumInst.f (a0 : List api_Pos) (a1 : Int) : Option Int := ((novationref10_Stock.f a0).bind fun y2_1 => (if ¬(y2_1 = true) then (some 0) else ((novationref10_SumInst.l0 a0 a1 FUEL 0 0).bind fun s1 => (some s1.1))))

def novationref10_Flat.l0 (a0 : List api_Pos) : Nat → Int → Option (Flow Int Bool)
  | 0, _ => none
  | k0 + 1, x3_0 => (if x3_0 < 6 then ((novationref10_SumInst.f a0 x3_0).bind fun y4_2 => ((novationref1_Sign.f y4_2).bind fun y4_3 => (if ¬(y4_3 = 0) then (some (.ret false)) else (novationref10_Flat.l0 a0 k0 (IntKind.i64.wrap (x3_0 + 1)))))) else (some (.out x3_0)))
def novationref10_Flat.f (a0 : List api_Pos) : Option Bool := ((novationref10_Flat.l0 a0 FUEL 0).bind fun f0 => f0.go fun s0 => ((novationref10_Stock.f a0).bind fun y6_1 => (some y6_1)))

def novationref15_price.f (a0 : Int) : Option Bool := (if a0 ≥ 1 then (some (decide (a0 ≤ 1000000000000))) else (some false))

def novationref15_RightOrder.f (a0 : api_Order) : Option Bool := (if a0.Id ≥ 1 then (if a0.Id ≤ 1099511627776 then (if a0.Acc ≥ 1 then (if a0.Acc ≤ 24 then (if a0.Inst ≥ 0 then (if a0.Inst < 6 then (if a0.Side = 1 then (if a0.Q ≥ 1 then (if a0.Q ≤ 1000000000 then ((novationref15_price.f a0.P).bind fun y1_51 => (some y1_51)) else (some false)) else (some false)) else (if a0.Side = 2 then (if a0.Q ≥ 1 then (if a0.Q ≤ 1000000000 then ((novationref15_price.f a0.P).bind fun y1_51 => (some y1_51)) else (some false)) else (some false)) else (some false))) else (some false)) else (some false)) else (some false)) else (some false)) else (some false)) else (some false))

def novationref15_Orders.l0 (a0 : List api_Order) : Nat → Int → Option (Flow Int Bool)
  | 0, _ => none
  | k1 + 1, x3_1 => (if x3_1 < (a0.length : Int) then (if 0 ≤ x3_1 ∧ x3_1 < (a0.length : Int) then ((novationref15_RightOrder.f (rd a0 x3_1)).bind fun y6_4 => (if ¬(y6_4 = true) then (some (.ret false)) else (if x3_1 > 0 then (if 0 ≤ IntKind.i64.wrap (x3_1 - 1) ∧ IntKind.i64.wrap (x3_1 - 1) < (a0.length : Int) then (if (rd a0 x3_1).Id ≤ (rd a0 (IntKind.i64.wrap (x3_1 - 1))).Id then (some (.ret false)) else (novationref15_Orders.l0 a0 k1 (IntKind.i64.wrap (x3_1 + 1)))) else none) else (novationref15_Orders.l0 a0 k1 (IntKind.i64.wrap (x3_1 + 1)))))) else none) else (some (.out x3_1)))
def novationref15_Orders.f (a0 : List api_Order) : Option Bool := (if (a0.length : Int) > 32 then (some false) else ((novationref15_Orders.l0 a0 FUEL 0).bind fun f1 => f1.go fun s1 => (some true)))

def novationref10_Total.l0 (a0 : List api_Row) : Nat → Int → Int → Option (Int × Int)
  | 0, _, _ => none
  | k1 + 1, x3_1, x4_1 => (if x4_1 < (a0.length : Int) then (if 0 ≤ x4_1 ∧ x4_1 < (a0.length : Int) then ((novationref1_Whole.f (rd a0 x4_1).Sum).bind fun y7_6 => ((novationref1_Plus.f x3_1 y7_6).bind fun y7_7 => (novationref10_Total.l0 a0 k1 y7_7 (IntKind.i64.wrap (x4_1 + 1))))) else none) else (some (x3_1, x4_1)))
def novationref10_Total.f (a0 : List api_Row) : Option Int := ((novationref10_Rows.f a0).bind fun y2_1 => (if ¬(y2_1 = true) then (some 0) else ((novationref10_Total.l0 a0 FUEL 0 0).bind fun s1 => (some s1.1))))

def novationref10_find.l0 (a0 : List api_Acc) (a1 : Int) : Nat → Int → Option (Flow Int (api_Acc × Bool))
  | 0, _ => none
  | k0 + 1, x6_0 => (if x6_0 < (a0.length : Int) then (if 0 ≤ x6_0 ∧ x6_0 < (a0.length : Int) then (if (rd a0 x6_0).Id = a1 then (some (.ret (rd a0 x6_0, true))) else (novationref10_find.l0 a0 a1 k0 (IntKind.i64.wrap (x6_0 + 1)))) else none) else (some (.out x6_0)))
def novationref10_find.f (a0 : List api_Acc) (a1 : Int) : Option (api_Acc × Bool) := ((novationref10_find.l0 a0 a1 FUEL 0).bind fun f0 => f0.go fun s0 => (some ((⟨0, 0, 0, 0⟩ : api_Acc), false)))

def novationref10_Find.f (a0 : List api_Acc) (a1 : Int) : Option (api_Acc × Bool) := ((novationref10_Accs.f a0).bind fun y1_1 => (if ¬(y1_1 = true) then (some ((⟨0, 0, 0, 0⟩ : api_Acc), false)) else ((novationref10_find.f a0 a1).bind fun y3_2 => (some (y3_2.1, y3_2.2)))))

def novationref15_there.f (a0 : api_Book) (a1 : Int) : Option Bool := ((novationref10_Find.f a0.Accs a1).bind fun y1_3 => (if y1_3.2 = true then (some true) else (some (a1 == 0))))

def novationref10_Status.f (a0 : List api_Member) (a1 : Int) : Option Int := ((novationref10_Members.f a0).bind fun y1_1 => (if ¬(y1_1 = true) then (some 0) else ((novationref10_status.f a0 a1).bind fun y3_2 => (some y3_2))))

def novationref15_RightBook.l0 (a1 : api_Book) : Nat → Int → Option (Flow Int Bool)
  | 0, _ => none
  | k2 + 1, x5_2 => (if x5_2 < (a1.Rows.length : Int) then (if 0 ≤ x5_2 ∧ x5_2 < (a1.Rows.length : Int) then (if (rd a1.Rows x5_2).Kind = 5 then ((novationref15_there.f a1 (rd a1.Rows x5_2).N).bind fun y9_7 => (if ¬(y9_7 = true) then (some (.ret false)) else (if (rd a1.Rows x5_2).Kind = 6 then ((novationref10_Status.f a1.Members (rd a1.Rows x5_2).N).bind fun y9_24 => (if y9_24 = 0 then (some (.ret false)) else (novationref15_RightBook.l0 a1 k2 (IntKind.i64.wrap (x5_2 + 1))))) else (if (rd a1.Rows x5_2).Kind = 7 then ((novationref10_Status.f a1.Members (rd a1.Rows x5_2).N).bind fun y9_24 => (if y9_24 = 0 then (some (.ret false)) else (novationref15_RightBook.l0 a1 k2 (IntKind.i64.wrap (x5_2 + 1))))) else (novationref15_RightBook.l0 a1 k2 (IntKind.i64.wrap (x5_2 + 1))))))) else (if (rd a1.Rows x5_2).Kind = 6 then ((novationref10_Status.f a1.Members (rd a1.Rows x5_2).N).bind fun y9_24 => (if y9_24 = 0 then (some (.ret false)) else (novationref15_RightBook.l0 a1 k2 (IntKind.i64.wrap (x5_2 + 1))))) else (if (rd a1.Rows x5_2).Kind = 7 then ((novationref10_Status.f a1.Members (rd a1.Rows x5_2).N).bind fun y9_24 => (if y9_24 = 0 then (some (.ret false)) else (novationref15_RightBook.l0 a1 k2 (IntKind.i64.wrap (x5_2 + 1))))) else (novationref15_RightBook.l0 a1 k2 (IntKind.i64.wrap (x5_2 + 1)))))) else none) else (some (.out x5_2)))
def novationref15_RightBook.l1 (a0 : api_Config) (a1 : api_Book) : Nat → Int → Option (Flow Int Bool)
  | 0, _ => none
  | k5 + 1, x7_5 => (if x7_5 < (a1.Stock.length : Int) then (if 0 ≤ x7_5 ∧ x7_5 < (a1.Stock.length : Int) then ((novationref15_there.f a1 (rd a1.Stock x7_5).Acc).bind fun y14_7 => (if ¬(y14_7 = true) then (some (.ret false)) else (if (rd a1.Stock x7_5).Inst ≥ (a0.Insts.length : Int) then (some (.ret false)) else (novationref15_RightBook.l1 a0 a1 k5 (IntKind.i64.wrap (x7_5 + 1)))))) else none) else (some (.out x7_5)))
def novationref15_RightBook.l2 (a1 : api_Book) : Nat → Int → Option (Flow Int Bool)
  | 0, _ => none
  | k8 + 1, x8_8 => (if x8_8 < (a1.Prices.length : Int) then (if 0 ≤ x8_8 ∧ x8_8 < (a1.Prices.length : Int) then ((novationref15_price.f (rd a1.Prices x8_8)).bind fun y19_5 => (if ¬(y19_5 = true) then (some (.ret false)) else (novationref15_RightBook.l2 a1 k8 (IntKind.i64.wrap (x8_8 + 1))))) else none) else (some (.out x8_8)))
def novationref15_RightBook.l3 (a0 : api_Config) (a1 : api_Book) : Nat → Int → Option (Flow Int Bool)
  | 0, _ => none
  | k11 + 1, x9_11 => (if x9_11 < (a1.Orders.length : Int) then (if 0 ≤ x9_11 ∧ x9_11 < (a1.Orders.length : Int) then ((novationref15_there.f a1 (rd a1.Orders x9_11).Acc).bind fun y24_7 => (if ¬(y24_7 = true) then (some (.ret false)) else (if (rd a1.Orders x9_11).Inst ≥ (a0.Insts.length : Int) then (some (.ret false)) else (novationref15_RightBook.l3 a0 a1 k11 (IntKind.i64.wrap (x9_11 + 1)))))) else none) else (some (.out x9_11)))
def novationref15_RightBook.f (a0 : api_Config) (a1 : api_Book) : Option Bool := ((novationref4_RightPlan.f a0).bind fun y1_1 => (if ¬(y1_1 = true) then (some false) else ((novationref10_RightRoll.f a1.Members a1.Accs).bind fun y1_8 => (if ¬(y1_8 = true) then (some false) else ((novationref10_Rows.f a1.Rows).bind fun y1_14 => (if ¬(y1_14 = true) then (some false) else ((novationref10_Flat.f a1.Stock).bind fun y1_20 => (if ¬(y1_20 = true) then (some false) else ((novationref15_Orders.f a1.Orders).bind fun y1_26 => (if ¬(y1_26 = true) then (some false) else (if ¬((a1.Prices.length : Int) = (a0.Insts.length : Int)) then (some false) else ((novationref10_Total.f a1.Rows).bind fun y3_2 => ((novationref1_Sign.f y3_2).bind fun y3_3 => (if ¬(y3_3 = 0) then (some false) else ((novationref15_RightBook.l0 a1 FUEL 0).bind fun f2 => f2.go fun s2 => ((novationref15_RightBook.l1 a0 a1 FUEL 0).bind fun f5 => f5.go fun s5 => ((novationref15_RightBook.l2 a1 FUEL 0).bind fun f8 => f8.go fun s8 => ((novationref15_RightBook.l3 a0 a1 FUEL 0).bind fun f11 => f11.go fun s11 => (some true)))))))))))))))))))

def novationref10_Live.f (a0 : Int) : Option Bool := (if a0 = 1 then (some true) else (some (a0 == 2)))

def novationref10_Get.l0 (a0 : List api_Row) (a1 : Int) (a2 : Int) : Nat → Int → Option (Flow Int Int)
  | 0, _ => none
  | k1 + 1, x7_1 => (if x7_1 < (a0.length : Int) then (if 0 ≤ x7_1 ∧ x7_1 < (a0.length : Int) then (if (rd a0 x7_1).Kind = a1 then (if (rd a0 x7_1).N = a2 then (some (.ret (rd a0 x7_1).Sum)) else (novationref10_Get.l0 a0 a1 a2 k1 (IntKind.i64.wrap (x7_1 + 1)))) else (novationref10_Get.l0 a0 a1 a2 k1 (IntKind.i64.wrap (x7_1 + 1)))) else none) else (some (.out x7_1)))
def novationref10_Get.f (a0 : List api_Row) (a1 : Int) (a2 : Int) : Option Int := ((novationref10_Rows.f a0).bind fun y1_1 => (if ¬(y1_1 = true) then (some 0) else ((novationref10_Get.l0 a0 a1 a2 FUEL 0).bind fun f1 => f1.go fun s1 => (some 0))))

def novationref26_Class.l0 (a0 : List api_Deed) (a1 : Int) : Nat → Int → Option (Flow Int Int)
  | 0, _ => none
  | k1 + 1, x5_1 => (if x5_1 < (a0.length : Int) then (if 0 ≤ x5_1 ∧ x5_1 < (a0.length : Int) then (if (rd a0 x5_1).Member = a1 then (some (.ret (rd a0 x5_1).Class)) else (novationref26_Class.l0 a0 a1 k1 (IntKind.i64.wrap (x5_1 + 1)))) else none) else (some (.out x5_1)))
def novationref26_Class.f (a0 : List api_Deed) (a1 : Int) : Option Int := ((novationref26_RightDeeds.f a0).bind fun y1_1 => (if ¬(y1_1 = true) then (some 0) else ((novationref26_Class.l0 a0 a1 FUEL 0).bind fun f1 => f1.go fun s1 => (some 1))))

def novationref26_Tranche.l0 (a1 : api_Book) (a2 : List api_Deed) (a3 : Int) (a4 : Int) : Nat → List Int → Int → Option ((List Int) × Int)
  | 0, _, _ => none
  | k1 + 1, x12_1, x13_1 => (if x13_1 < (a1.Members.length : Int) then (if 0 ≤ x13_1 ∧ x13_1 < (a1.Members.length : Int) then ((novationref10_Live.f (rd a1.Members x13_1).Status).bind fun y8_2 => (if y8_2 = true then (if ¬((rd a1.Members x13_1).Id = a3) then ((novationref10_Get.f a1.Rows 6 (rd a1.Members x13_1).Id).bind fun y8_14 => (if y8_14 > 0 then ((novationref26_Class.f a2 (rd a1.Members x13_1).Id).bind fun y8_21 => (if y8_21 = a4 then (if x12_1.length + 1 ≤ 100000000000 then (novationref26_Tranche.l0 a1 a2 a3 a4 k1 (x12_1 ++ ([(rd a1.Members x13_1).Id])) (IntKind.i64.wrap (x13_1 + 1))) else none) else (novationref26_Tranche.l0 a1 a2 a3 a4 k1 x12_1 (IntKind.i64.wrap (x13_1 + 1))))) else (novationref26_Tranche.l0 a1 a2 a3 a4 k1 x12_1 (IntKind.i64.wrap (x13_1 + 1))))) else (novationref26_Tranche.l0 a1 a2 a3 a4 k1 x12_1 (IntKind.i64.wrap (x13_1 + 1)))) else (novationref26_Tranche.l0 a1 a2 a3 a4 k1 x12_1 (IntKind.i64.wrap (x13_1 + 1))))) else none) else (some (x12_1, x13_1)))
def novationref26_Tranche.f (a0 : api_Config) (a1 : api_Book) (a2 : List api_Deed) (a3 : Int) (a4 : Int) : Option ((List Int) × Int) := ((novationref15_RightBook.f a0 a1).bind fun y1_2 => (if ¬(y1_2 = true) then (some (([] : List Int), 1)) else ((novationref26_RightDeeds.f a2).bind fun y1_6 => (if ¬(y1_6 = true) then (some (([] : List Int), 1)) else ((novationref26_Tranche.l0 a1 a2 a3 a4 FUEL ([] : List Int) 0).bind fun s1 => (some (s1.1, 0)))))))

def novationlaw26_told.f (a0 : api_Config) (a1 : api_Book) (a2 : List api_Deed) (a3 : List Int) (a4 : List api_Lot) (a5 : List api_Bid) (a6 : Int) (a7 : Int) : Option Bool := ((rank_Deeds.f a0 a2 a3 a4 a5).bind fun y1_5 => ((novationref26_Deeds.f a0 a2 a3 a4 a5).bind fun y2_5 => ((rank_Tranche.f a0 a1 a2 a6 a7).bind fun y3_5 => ((novationref26_Tranche.f a0 a1 a2 a6 a7).bind fun y4_5 => (if y1_5.2 = y2_5.2 then ((novationhelp_Deeds.f y1_5.1 y2_5.1).bind fun y5_6 => (if y5_6 = true then (if y3_5.2 = y4_5.2 then ((novationhelp_Nums.f y3_5.1 y4_5.1).bind fun y5_16 => (if y5_16 = true then ((rank_Class.f a2 a6).bind fun y5_21 => ((novationref26_Class.f a2 a6).bind fun y5_24 => (if y5_21 = y5_24 then ((rank_Right.f a2).bind fun y5_29 => ((novationref26_RightDeeds.f a2).bind fun y5_31 => (some (y5_29 == y5_31)))) else (some false)))) else (some false))) else (some false)) else (some false))) else (some false))))))

def novationlaw26_RankAll.l0 (a4 : List api_Lot) : Nat → Int → Option (Flow Int Bool)
  | 0, _ => none
  | k2 + 1, x17_2 => (if x17_2 < (a4.length : Int) then (if 0 ≤ x17_2 ∧ x17_2 < (a4.length : Int) then (if ((rd a4 x17_2).Legs.length : Int) > 12 then (some (.ret true)) else (novationlaw26_RankAll.l0 a4 k2 (IntKind.i64.wrap (x17_2 + 1)))) else none) else (some (.out x17_2)))
def novationlaw26_RankAll.f (a0 : api_Config) (a1 : api_Book) (a2 : List api_Deed) (a3 : List Int) (a4 : List api_Lot) (a5 : List api_Bid) (a6 : Int) (a7 : Int) : Option Bool := ((novationlaw26_known.f).bind fun y1_0 => (if ¬(y1_0 = true) then (some false) else (if (a0.Insts.length : Int) > 10 then (some true) else (if (a1.Members.length : Int) > 16 then (some true) else (if (a1.Accs.length : Int) > 30 then (some true) else (if (a1.Rows.length : Int) > 60 then (some true) else (if (a1.Stock.length : Int) > 60 then (some true) else (if (a1.Prices.length : Int) > 10 then (some true) else (if (a1.Orders.length : Int) > 40 then (some true) else (if (a4.length : Int) > 20 then (some true) else (if (a5.length : Int) > 50 then (some true) else (if (a2.length : Int) > 20 then (some true) else (if (a3.length : Int) > 20 then (some true) else ((novationlaw26_RankAll.l0 a4 FUEL 0).bind fun f2 => f2.go fun s2 => ((novationlaw26_told.f a0 a1 a2 a3 a4 a5 a6 a7).bind fun y10_8 => (some y10_8))))))))))))))))

end Go.Ax
