/- The walk of novationref10_Parts, printed by gen.py. -/
import Derived.Test.YtmpbhgofllbejaaGa
import Derived.Test.YtmpbhgofllbejaaGs
import Derived.Test.YtmpbhgofllbejaaWa
set_option linter.unusedVariables false
set_option linter.unusedSimpArgs false
set_option linter.unusedSimpArgs false
set_option linter.unusedVariables false
namespace Go.Ax
open Go Go.Proofs
set_option maxRecDepth 100000
set_option maxHeartbeats 4000000
theorem novationref10_Parts.spec {a0 : List api_Entry} {r : (List novationref10_Part)} (h : novationref10_Parts.f a0 = some r) : FSpec Try.prog 72 [(false, [.l (rowsD api_Entry.D a0)])] [.one (.d (.l (rowsD novationref10_Part.D r)))] := by
  unfold novationref10_Parts.f at h
  refine fspec_data mixed Try.func72 rfl (by decide) [0, 2, 3, 4] (rs := [.tmp 2]) rfl (by decide) (n := 32) rfl (by simp) ?_
  refine wgo ?_
  repeat refine cj ?_
  obtain ⟨s0, h0, q0⟩ := bd h
  rw [aCode_loop]
  refine aLoop_fx (α := Nat × (List novationref10_Part) × Int) (fun p => (⟨32, [], [(0, .one (.l (rowsD api_Entry.D a0))), (2, .own 4 (rowsD novationref10_Part.D ([] : List novationref10_Part))), (3, .own 4 (rowsD novationref10_Part.D p.2.1)), (4, .one (.v (.int .i64 p.2.2)))]⟩ : S)) (fun p => novationref10_Parts.l0 a0 p.1 p.2.1 p.2.2 = some s0) (fun p => p.1) (FUEL, ([] : List novationref10_Part), 0) h0 ?_ ?_
  exact fxs
  rintro ⟨k0, x3_0, x4_0⟩ h
  simp only at h
  obtain _ | k0 := k0
  exact absurd h (by simp [novationref10_Parts.l0])
  rw [novationref10_Parts.l0] at h
  refine wgo ?_
  repeat refine cj ?_
  refine kIf2 h (fun hb h => ?_) (fun hb h => ?_)
  obtain ⟨⟨hg5_3_0, hg5_3_1⟩, h⟩ := gd h
  refine wgo ?_
  repeat refine cj ?_
  obtain ⟨y5_16, hy5_16, h⟩ := bd h
  refine aCall_of (novationref1_Wide.spec hy5_16) ?_
  obtain ⟨hg5_19, h⟩ := gd h
  refine wgo ?_
  repeat refine cj ?_
  refine Round.fx (k0, x3_0 ++ ([(⟨(rd a0 x4_0).Kind, (rd a0 x4_0).N, y5_16⟩ : novationref10_Part)]), IntKind.i64.wrap (x4_0 + 1)) h (Nat.lt_succ_self k0) ?_
  exact fxs
  obtain rfl := Option.some.inj h
  have h := q0
  try dsimp only at h
  obtain rfl := Option.some.inj h
  exact fin
end Go.Ax

/- The walk of novationref10_Rows, printed by gen.py. -/
set_option linter.unusedSimpArgs false
set_option linter.unusedVariables false
namespace Go.Ax
open Go Go.Proofs
set_option maxRecDepth 100000
set_option maxHeartbeats 4000000
theorem novationref10_Rows.spec {a0 : List api_Row} {r : Bool} (h : novationref10_Rows.f a0 = some r) : FSpec Try.prog 36 [(false, [.l (rowsD api_Row.D a0)])] [.one (.d (.v (.bool r)))] := by
  unfold novationref10_Rows.f at h
  refine fspec_data mixed Try.func36 rfl (by decide) [0, 2, 3] (rs := [.tmp 2]) rfl (by decide) (n := 74) rfl (by simp) ?_
  refine wgo ?_
  repeat refine cj ?_
  obtain ⟨f0, h0, q0⟩ := bd h
  rw [aCode_loop]
  refine aLoop_fx (α := Nat × Int) (fun p => (⟨74, [], [(0, .one (.l (rowsD api_Row.D a0))), (2, .one (.v (.bool false))), (3, .one (.v (.int .i64 p.2)))]⟩ : S)) (fun p => novationref10_Rows.l0 a0 p.1 p.2 = some f0) (fun p => p.1) (FUEL, 0) h0 ?_ ?_
  exact fxs
  rintro ⟨k0, x3_0⟩ h
  simp only at h
  obtain _ | k0 := k0
  exact absurd h (by simp [novationref10_Rows.l0])
  rw [novationref10_Rows.l0] at h
  refine wgo ?_
  repeat refine cj ?_
  refine kIf2 h (fun hb h => ?_) (fun hb h => ?_)
  obtain ⟨⟨hg4_2_0, hg4_2_1⟩, h⟩ := gd h
  refine wgo ?_
  repeat refine cj ?_
  obtain ⟨y4_10, hy4_10, h⟩ := bd h
  refine aCall_of (novationref10_Key.spec hy4_10) ?_
  refine wgo ?_
  repeat refine cj ?_
  refine kIf3 h (fun hb h => ?_) (fun hb h => ?_)
  refine wgo ?_
  repeat refine cj ?_
  refine kIf2 h (fun hb h => ?_) (fun hb h => ?_)
  obtain rfl := Option.some.inj h
  have h := q0
  simp only [Flow.go_ret, Flow.goL_ret] at h
  obtain rfl := Option.some.inj h
  exact fin
  refine wgo ?_
  repeat refine cj ?_
  refine kIf2 h (fun hb h => ?_) (fun hb h => ?_)
  obtain ⟨⟨hg6_11_0, hg6_11_1⟩, h⟩ := gd h
  refine wgo ?_
  repeat refine cj ?_
  refine kIf3 h (fun hb h => ?_) (fun hb h => ?_)
  refine wgo ?_
  repeat refine cj ?_
  refine kIf2 h (fun hb h => ?_) (fun hb h => ?_)
  refine wgo ?_
  repeat refine cj ?_
  refine kIf2 h (fun hb h => ?_) (fun hb h => ?_)
  obtain rfl := Option.some.inj h
  have h := q0
  simp only [Flow.go_ret, Flow.goL_ret] at h
  obtain rfl := Option.some.inj h
  exact fin
  refine wgo ?_
  repeat refine cj ?_
  refine Round.fx (k0, IntKind.i64.wrap (x3_0 + 1)) h (Nat.lt_succ_self k0) ?_
  exact fxs
  refine wgo ?_
  repeat refine cj ?_
  refine Round.fx (k0, IntKind.i64.wrap (x3_0 + 1)) h (Nat.lt_succ_self k0) ?_
  exact fxs
  obtain rfl := Option.some.inj h
  have h := q0
  simp only [Flow.go_ret, Flow.goL_ret] at h
  obtain rfl := Option.some.inj h
  exact fin
  refine wgo ?_
  repeat refine cj ?_
  refine Round.fx (k0, IntKind.i64.wrap (x3_0 + 1)) h (Nat.lt_succ_self k0) ?_
  exact fxs
  obtain rfl := Option.some.inj h
  have h := q0
  simp only [Flow.go_ret, Flow.goL_ret] at h
  obtain rfl := Option.some.inj h
  exact fin
  obtain rfl := Option.some.inj h
  have h := q0
  simp only [Flow.go_out, Flow.goL_out] at h
  try dsimp only at h
  obtain rfl := Option.some.inj h
  exact fin
end Go.Ax

/- The walk of novationref10_Post, printed by gen.py. -/
set_option linter.unusedSimpArgs false
set_option linter.unusedVariables false
namespace Go.Ax
open Go Go.Proofs
set_option maxRecDepth 100000
set_option maxHeartbeats 4000000
theorem novationref10_Post.spec {a0 : List api_Row} {a1 : List api_Entry} {r : (List api_Row) × Int} (h : novationref10_Post.f a0 a1 = some r) : FSpec Try.prog 105 [(false, [.l (rowsD api_Row.D a0)]), (false, [.l (rowsD api_Entry.D a1)])] [.one (.d (.l (rowsD api_Row.D r.1))), .one (.d (.v (.int .i64 r.2)))] := by
  unfold novationref10_Post.f at h
  refine fspec_data mixed Try.func105 rfl (by decide) [0, 1, 4, 5, 6, 7, 8, 9, 10] (rs := [.tmp 4, .tmp 5]) rfl (by decide) (n := 58) rfl (by simp) ?_
  refine wgo ?_
  repeat refine cj ?_
  obtain ⟨y1_1, hy1_1, h⟩ := bd h
  refine aCall_of (novationref10_Rows.spec hy1_1) ?_
  refine wgo ?_
  repeat refine cj ?_
  refine kIf3 h (fun hb h => ?_) (fun hb h => ?_)
  refine wgo ?_
  repeat refine cj ?_
  refine kIf2 h (fun hb h => ?_) (fun hb h => ?_)
  obtain rfl := Option.some.inj h
  exact fin
  refine wgo ?_
  repeat refine cj ?_
  obtain ⟨y4_1, hy4_1, h⟩ := bd h
  refine aCall_of (novationref10_Parts.spec hy4_1) ?_
  refine wgo ?_
  repeat refine cj ?_
  obtain ⟨f1, h1, q1⟩ := bd h
  rw [aCode_loop]
  refine aLoop_fx (α := Nat × Int × Int) (fun p => (⟨58, [], [(0, .one (.l (rowsD api_Row.D a0))), (1, .one (.l (rowsD api_Entry.D a1))), (4, .own 3 (rowsD api_Row.D ([] : List api_Row))), (5, .one (.v (.int .i64 0))), (6, .box [.d (.v (.bool (decide ((p.2.1 : Int) < 0)))), .d (.l (rowsU (digs (p.2.1 : Int).natAbs)))]), (7, .one (.l (rowsD novationref10_Part.D y4_1))), (8, .one (.v (.int .i64 p.2.2))), (9, .none), (10, .none)]⟩ : S)) (fun p => novationref10_Post.l0 y4_1 p.1 p.2.1 p.2.2 = some f1) (fun p => p.1) (FUEL, 0, 0) h1 ?_ ?_
  exact fxs
  rintro ⟨k1, x6_1, x8_1⟩ h
  simp only at h
  obtain _ | k1 := k1
  exact absurd h (by simp [novationref10_Post.l0])
  rw [novationref10_Post.l0] at h
  refine wgo ?_
  repeat refine cj ?_
  refine kIf2 h (fun hb h => ?_) (fun hb h => ?_)
  obtain ⟨⟨hg8_2_0, hg8_2_1⟩, h⟩ := gd h
  refine wgo ?_
  repeat refine cj ?_
  obtain ⟨y8_10, hy8_10, h⟩ := bd h
  refine aCall_of (novationref10_Key.spec hy8_10) ?_
  refine wgo ?_
  repeat refine cj ?_
  refine kIf2 h (fun hb h => ?_) (fun hb h => ?_)
  obtain rfl := Option.some.inj h
  have h := q1
  simp only [Flow.go_ret, Flow.goL_ret] at h
  obtain rfl := Option.some.inj h
  exact fin
  refine wgo ?_
  repeat refine cj ?_
  obtain ⟨y10_6, hy10_6, h⟩ := bd h
  refine aCall_of (novationref1_Plus.spec hy10_6) ?_
  refine wgo ?_
  repeat refine cj ?_
  refine Round.fx (k1, y10_6, IntKind.i64.wrap (x8_1 + 1)) h (Nat.lt_succ_self k1) ?_
  exact fxs
  obtain rfl := Option.some.inj h
  have h := q1
  simp only [Flow.go_out, Flow.goL_out] at h
  try dsimp only at h
  refine wgo ?_
  repeat refine cj ?_
  obtain ⟨y11_1, hy11_1, h⟩ := bd h
  refine aCall_of (novationref1_Sign.spec hy11_1) ?_
  refine wgo ?_
  repeat refine cj ?_
  refine kIf2 h (fun hb h => ?_) (fun hb h => ?_)
  obtain rfl := Option.some.inj h
  exact fin
  refine wgo ?_
  repeat refine cj ?_
  obtain ⟨y13_2, hy13_2, h⟩ := bd h
  refine aCall_of (novationref10_Laid.spec hy13_2) ?_
  refine wgo ?_
  repeat refine cj ?_
  refine kIf2 h (fun hb h => ?_) (fun hb h => ?_)
  obtain rfl := Option.some.inj h
  exact fin
  obtain rfl := Option.some.inj h
  exact fin
  obtain rfl := Option.some.inj h
  exact fin
end Go.Ax

/- The walk of novationlaw12_posts, printed by gen.py. -/
set_option linter.unusedSimpArgs false
set_option linter.unusedVariables false
namespace Go.Ax
open Go Go.Proofs
set_option maxRecDepth 100000
set_option maxHeartbeats 4000000
theorem novationlaw12_posts.spec {a0 : List api_Row} {a1 : List api_Entry} {r : Bool} (h : novationlaw12_posts.f a0 a1 = some r) : FSpec Try.prog 45 [(false, [.l (rowsD api_Row.D a0)]), (false, [.l (rowsD api_Entry.D a1)])] [.one (.d (.v (.bool r)))] := by
  unfold novationlaw12_posts.f at h
  refine fspec_data mixed Try.func45 rfl (by decide) [0, 1, 4, 5, 6, 7, 8] (rs := [.tmp 4]) rfl (by decide) (n := 29) rfl (by simp) ?_
  refine wgo ?_
  repeat refine cj ?_
  obtain ⟨y1_2, hy1_2, h⟩ := bd h
  refine aCall_of (ledger_Post.spec hy1_2) ?_
  refine wgo ?_
  repeat refine cj ?_
  obtain ⟨y2_2, hy2_2, h⟩ := bd h
  refine aCall_of (novationref10_Post.spec hy2_2) ?_
  refine wgo ?_
  repeat refine cj ?_
  refine kIf2 h (fun hb h => ?_) (fun hb h => ?_)
  refine wgo ?_
  repeat refine cj ?_
  obtain ⟨y3_6, hy3_6, h⟩ := bd h
  refine aCall_of (novationhelp_Rows.spec hy3_6) ?_
  obtain rfl := Option.some.inj h
  exact fin
  obtain rfl := Option.some.inj h
  exact fin
end Go.Ax

/- The walk of novationref10_Both, printed by gen.py. -/
set_option linter.unusedSimpArgs false
set_option linter.unusedVariables false
namespace Go.Ax
open Go Go.Proofs
set_option maxRecDepth 100000
set_option maxHeartbeats 4000000
theorem novationref10_Both.spec {a0 : Int} {a1 : Int} {a2 : Int} {a3 : Int} {a4 : Int} {r : (List novationref10_Part)} (h : novationref10_Both.f a0 a1 a2 a3 a4 = some r) : FSpec Try.prog 104 [(false, [.v (.int .i64 a0)]), (false, [.v (.int .i64 a1)]), (false, [.v (.int .i64 a2)]), (false, [.v (.int .i64 a3)]), (true, bigDs a4)] [.one (.own 4 (rowsD novationref10_Part.D r))] := by
  unfold novationref10_Both.f at h
  refine fspec_mix [true] mixed Try.func104 rfl (by decide) [0, 1, 2, 3, 4, 9, 10] (rs := [.tmp 10]) rfl (by decide) (n := 21) rfl (by simp) ?_
  refine wgo ?_
  repeat refine cj ?_
  obtain ⟨y1_3, hy1_3, h⟩ := bd h
  refine aCall_of (novationref1_Turned.spec hy1_3) ?_
  obtain rfl := Option.some.inj h
  exact fin
end Go.Ax

/- The walk of novationref10_MoveRow, printed by gen.py. -/
set_option linter.unusedSimpArgs false
set_option linter.unusedVariables false
namespace Go.Ax
open Go Go.Proofs
set_option maxRecDepth 100000
set_option maxHeartbeats 4000000
theorem novationref10_MoveRow.spec {a0 : List api_Row} {a1 : Int} {a2 : Int} {a3 : Int} {a4 : Int} {a5 : Int} {r : (List api_Row) × Int} (h : novationref10_MoveRow.f a0 a1 a2 a3 a4 a5 = some r) : FSpec Try.prog 43 [(false, [.l (rowsD api_Row.D a0)]), (false, [.v (.int .i64 a1)]), (false, [.v (.int .i64 a2)]), (false, [.v (.int .i64 a3)]), (false, [.v (.int .i64 a4)]), (false, [.v (.int .i64 a5)])] [.one (.d (.l (rowsD api_Row.D r.1))), .one (.d (.v (.int .i64 r.2)))] := by
  unfold novationref10_MoveRow.f at h
  refine fspec_data mixed Try.func43 rfl (by decide) [0, 1, 2, 3, 4, 5, 12, 13, 14, 15] (rs := [.tmp 12, .tmp 13]) rfl (by decide) (n := 46) rfl (by simp) ?_
  refine wgo ?_
  repeat refine cj ?_
  obtain ⟨y1_1, hy1_1, h⟩ := bd h
  refine aCall_of (novationref10_Rows.spec hy1_1) ?_
  refine wgo ?_
  repeat refine cj ?_
  refine kIf3 h (fun hb h => ?_) (fun hb h => ?_)
  refine wgo ?_
  repeat refine cj ?_
  obtain ⟨y1_6, hy1_6, h⟩ := bd h
  refine aCall_of (novationref10_Key.spec hy1_6) ?_
  refine wgo ?_
  repeat refine cj ?_
  refine kIf3 h (fun hb h => ?_) (fun hb h => ?_)
  refine wgo ?_
  repeat refine cj ?_
  obtain ⟨y1_12, hy1_12, h⟩ := bd h
  refine aCall_of (novationref10_Key.spec hy1_12) ?_
  refine wgo ?_
  repeat refine cj ?_
  refine kIf2 h (fun hb h => ?_) (fun hb h => ?_)
  obtain rfl := Option.some.inj h
  exact fin
  refine wgo ?_
  repeat refine cj ?_
  obtain ⟨y3_6, hy3_6, h⟩ := bd h
  refine aCall_of (novationref1_Whole.spec hy3_6) ?_
  refine wgo ?_
  repeat refine cj ?_
  obtain ⟨y3_7, hy3_7, h⟩ := bd h
  refine aCall_of (novationref10_Both.spec hy3_7) ?_
  refine wgo ?_
  repeat refine cj ?_
  obtain ⟨y3_8, hy3_8, h⟩ := bd h
  refine aCall_of (novationref10_Laid.spec hy3_8) ?_
  refine wgo ?_
  repeat refine cj ?_
  refine kIf2 h (fun hb h => ?_) (fun hb h => ?_)
  obtain rfl := Option.some.inj h
  exact fin
  obtain rfl := Option.some.inj h
  exact fin
  obtain rfl := Option.some.inj h
  exact fin
  obtain rfl := Option.some.inj h
  exact fin
end Go.Ax

/- The walk of novationlaw12_LedgerPosts, printed by gen.py. -/
set_option linter.unusedSimpArgs false
set_option linter.unusedVariables false
namespace Go.Ax
open Go Go.Proofs
set_option maxRecDepth 100000
set_option maxHeartbeats 4000000
theorem novationlaw12_LedgerPosts.spec {a0 : List api_Row} {a1 : List api_Entry} {a2 : api_Row} {a3 : api_Row} {a4 : Int} {r : Bool} (h : novationlaw12_LedgerPosts.f a0 a1 a2 a3 a4 = some r) : FSpec Try.prog 8 [(false, [.l (rowsD api_Row.D a0)]), (false, [.l (rowsD api_Entry.D a1)]), (true, api_Row.D a2), (true, api_Row.D a3), (false, [.v (.int .i64 a4)])] [.one (.d (.v (.bool r)))] := by
  unfold novationlaw12_LedgerPosts.f at h
  refine fspec_data mixed Try.func8 rfl (by decide) [0, 1, 2, 3, 4, 7, 8, 10, 11, 12, 13, 14] (rs := [.tmp 10]) rfl (by decide) (n := 60) rfl (by simp) ?_
  refine wgo ?_
  repeat refine cj ?_
  obtain ⟨y1_0, hy1_0, h⟩ := bd h
  refine aCall_of (novationlaw12_known.spec hy1_0) ?_
  refine wgo ?_
  repeat refine cj ?_
  refine kIf2 h (fun hb h => ?_) (fun hb h => ?_)
  obtain rfl := Option.some.inj h
  exact fin
  refine wgo ?_
  repeat refine cj ?_
  refine kIf3 h (fun hb h => ?_) (fun hb h => ?_)
  refine wgo ?_
  repeat refine cj ?_
  refine kIf2 h (fun hb h => ?_) (fun hb h => ?_)
  obtain rfl := Option.some.inj h
  exact fin
  refine wgo ?_
  repeat refine cj ?_
  obtain ⟨y5_4, hy5_4, h⟩ := bd h
  refine aCall_of (ledger_Move.spec hy5_4) ?_
  refine wgo ?_
  repeat refine cj ?_
  obtain ⟨y6_10, hy6_10, h⟩ := bd h
  refine aCall_of (novationref10_MoveRow.spec hy6_10) ?_
  refine wgo ?_
  repeat refine cj ?_
  refine kIf2 h (fun hb h => ?_) (fun hb h => ?_)
  refine wgo ?_
  repeat refine cj ?_
  obtain ⟨y7_6, hy7_6, h⟩ := bd h
  refine aCall_of (novationhelp_Rows.spec hy7_6) ?_
  refine wgo ?_
  repeat refine cj ?_
  refine kIf2 h (fun hb h => ?_) (fun hb h => ?_)
  refine wgo ?_
  repeat refine cj ?_
  obtain ⟨y7_11, hy7_11, h⟩ := bd h
  refine aCall_of (novationlaw12_posts.spec hy7_11) ?_
  obtain rfl := Option.some.inj h
  exact fin
  obtain rfl := Option.some.inj h
  exact fin
  obtain rfl := Option.some.inj h
  exact fin
  obtain rfl := Option.some.inj h
  exact fin
end Go.Ax
