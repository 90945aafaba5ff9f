/- The walk of novationhelp_Nums, printed by gen.py. -/
import Derived.Test.YtjmoeebaehjmnaaGreatGa
import Derived.Test.YtjmoeebaehjmnaaGreatGs
set_option linter.unusedVariables false
set_option linter.unusedSimpArgs false
set_option linter.unusedSimpArgs false
set_option linter.unusedVariables false
namespace Go.Ax
open Go Go.Proofs
set_option maxRecDepth 100000
set_option maxHeartbeats 4000000
theorem novationhelp_Nums.spec {a0 : List Int} {a1 : List Int} {r : Bool} (h : novationhelp_Nums.f a0 a1 = some r) : FSpec Tryz.prog 16 [(false, [.l (rowsD i64D a0)]), (false, [.l (rowsD i64D a1)])] [.one (.d (.v (.bool r)))] := by
  unfold novationhelp_Nums.f at h
  refine fspec_data mixed Tryz.func16 rfl (by decide) [0, 1, 4, 5] (rs := [.tmp 4]) rfl (by decide) (n := 26) rfl (by simp) ?_
  refine wgo ?_
  repeat refine cj ?_
  refine kIf2 h (fun hb h => ?_) (fun hb h => ?_)
  obtain rfl := Option.some.inj h
  exact fin
  refine wgo ?_
  repeat refine cj ?_
  obtain ⟨f1, h1, q1⟩ := bd h
  rw [aCode_loop]
  refine aLoop_fx (α := Nat × Int) (fun p => (⟨26, [], [(0, .one (.l (rowsD i64D a0))), (1, .one (.l (rowsD i64D a1))), (4, .one (.v (.bool false))), (5, .one (.v (.int .i64 p.2)))]⟩ : S)) (fun p => novationhelp_Nums.l0 a0 a1 p.1 p.2 = some f1) (fun p => p.1) (FUEL, 0) h1 ?_ ?_
  exact fxs
  rintro ⟨k1, x5_1⟩ h
  simp only at h
  obtain _ | k1 := k1
  exact absurd h (by simp [novationhelp_Nums.l0])
  rw [novationhelp_Nums.l0] at h
  refine wgo ?_
  repeat refine cj ?_
  refine kIf2 h (fun hb h => ?_) (fun hb h => ?_)
  obtain ⟨⟨hg6_2_0, hg6_2_1⟩, h⟩ := gd h
  obtain ⟨⟨hg6_6_0, hg6_6_1⟩, h⟩ := gd h
  refine wgo ?_
  repeat refine cj ?_
  refine kIf2 h (fun hb h => ?_) (fun hb h => ?_)
  obtain rfl := Option.some.inj h
  have h := q1
  simp only [Flow.go_ret, Flow.goL_ret] at h
  obtain rfl := Option.some.inj h
  exact fin
  refine wgo ?_
  repeat refine cj ?_
  refine Round.fx (k1, IntKind.i64.wrap (x5_1 + 1)) h (Nat.lt_succ_self k1) ?_
  exact fxs
  obtain rfl := Option.some.inj h
  have h := q1
  simp only [Flow.go_out, Flow.goL_out] at h
  try dsimp only at h
  obtain rfl := Option.some.inj h
  exact fin
end Go.Ax

/- The walk of novationlaw20_small, printed by gen.py. -/
set_option linter.unusedSimpArgs false
set_option linter.unusedVariables false
namespace Go.Ax
open Go Go.Proofs
set_option maxRecDepth 100000
set_option maxHeartbeats 4000000
theorem novationlaw20_small.spec {r : api_Config × api_Book} (h : novationlaw20_small.f = some r) : FSpec Tryz.prog 12 [] [.agg (api_Config.D r.1), .agg (api_Book.D r.2)] := by
  unfold novationlaw20_small.f at h
  refine fspec_data mixed Tryz.func12 rfl (by decide) [0, 1, 2, 3] (rs := [.cell 0 24, .cell 1 32]) rfl (by decide) (n := 25) rfl (by simp) ?_
  obtain rfl := Option.some.inj h
  exact fin
end Go.Ax

/- The walk of novationref10_Accs, printed by gen.py. -/
set_option linter.unusedSimpArgs false
set_option linter.unusedVariables false
namespace Go.Ax
open Go Go.Proofs
set_option maxRecDepth 100000
set_option maxHeartbeats 4000000
theorem novationref10_Accs.spec {a0 : List api_Acc} {r : Bool} (h : novationref10_Accs.f a0 = some r) : FSpec Tryz.prog 42 [(false, [.l (rowsD api_Acc.D a0)])] [.one (.d (.v (.bool r)))] := by
  unfold novationref10_Accs.f at h
  refine fspec_data mixed Tryz.func42 rfl (by decide) [0, 2, 3, 4, 5] (rs := [.tmp 2]) rfl (by decide) (n := 95) rfl (by simp) ?_
  refine wgo ?_
  repeat refine cj ?_
  obtain ⟨f0, h0, q0⟩ := bd h
  rw [aCode_loop]
  refine aLoop_fx (α := Nat × Int) (fun p => (⟨95, [], [(0, .one (.l (rowsD api_Acc.D a0))), (2, .one (.v (.bool false))), (3, .one (.v (.int .i64 p.2))), (4, .none), (5, .none)]⟩ : S)) (fun p => novationref10_Accs.l0 a0 p.1 p.2 = some f0) (fun p => p.1) (FUEL, 0) h0 ?_ ?_
  exact fxs
  rintro ⟨k0, x3_0⟩ h
  simp only at h
  obtain _ | k0 := k0
  exact absurd h (by simp [novationref10_Accs.l0])
  rw [novationref10_Accs.l0] at h
  refine wgo ?_
  repeat refine cj ?_
  refine kIf2 h (fun hb h => ?_) (fun hb h => ?_)
  obtain ⟨⟨hg4_2_0, hg4_2_1⟩, h⟩ := gd h
  refine wgo ?_
  repeat refine cj ?_
  refine kIf3 h (fun hb h => ?_) (fun hb h => ?_)
  refine wgo ?_
  repeat refine cj ?_
  refine kIf3 h (fun hb h => ?_) (fun hb h => ?_)
  refine wgo ?_
  repeat refine cj ?_
  refine kIf3 h (fun hb h => ?_) (fun hb h => ?_)
  refine wgo ?_
  repeat refine cj ?_
  refine kIf3 h (fun hb h => ?_) (fun hb h => ?_)
  refine wgo ?_
  repeat refine cj ?_
  refine kIf2 h (fun hb h => ?_) (fun hb h => ?_)
  refine wgo ?_
  repeat refine cj ?_
  refine kIf3 h (fun hb h => ?_) (fun hb h => ?_)
  refine wgo ?_
  repeat refine cj ?_
  refine kIf3 h (fun hb h => ?_) (fun hb h => ?_)
  refine wgo ?_
  repeat refine cj ?_
  refine kIf3 h (fun hb h => ?_) (fun hb h => ?_)
  refine wgo ?_
  repeat refine cj ?_
  refine kIf2 h (fun hb h => ?_) (fun hb h => ?_)
  obtain ⟨⟨hg5_47_0, hg5_47_1⟩, h⟩ := gd h
  refine wgo ?_
  repeat refine cj ?_
  refine kIf2 h (fun hb h => ?_) (fun hb h => ?_)
  obtain rfl := Option.some.inj h
  have h := q0
  simp only [Flow.go_ret, Flow.goL_ret] at h
  obtain rfl := Option.some.inj h
  exact fin
  refine wgo ?_
  repeat refine cj ?_
  obtain ⟨f3, h3, q3⟩ := bd h
  rw [aCode_loop]
  refine aLoop_fx (α := Nat × Int) (fun p => (⟨95, [], [(0, .one (.l (rowsD api_Acc.D a0))), (2, .one (.v (.bool false))), (3, .one (.v (.int .i64 x3_0))), (4, .box [.d (.v (.int .i64 (rd a0 x3_0).Id)), .d (.v (.int .i64 (rd a0 x3_0).Member)), .d (.v (.int .i64 (rd a0 x3_0).Kind)), .d (.v (.int .i64 (rd a0 x3_0).Limit))]), (5, .one (.v (.int .i64 p.2)))]⟩ : S)) (fun p => novationref10_Accs.l1 a0 x3_0 p.1 p.2 = some f3) (fun p => p.1) (FUEL, 0) h3 ?_ ?_
  exact fxs
  rintro ⟨k3, x5_3⟩ h
  simp only at h
  obtain _ | k3 := k3
  exact absurd h (by simp [novationref10_Accs.l1])
  rw [novationref10_Accs.l1] at h
  refine wgo ?_
  repeat refine cj ?_
  refine kIf2 h (fun hb h => ?_) (fun hb h => ?_)
  refine wgo ?_
  repeat refine cj ?_
  refine kIf2 h (fun hb h => ?_) (fun hb h => ?_)
  obtain ⟨⟨hg10_6_0, hg10_6_1⟩, h⟩ := gd h
  refine wgo ?_
  repeat refine cj ?_
  refine kIf2 h (fun hb h => ?_) (fun hb h => ?_)
  refine wgo ?_
  repeat refine cj ?_
  refine kIf2 h (fun hb h => ?_) (fun hb h => ?_)
  obtain rfl := Option.some.inj h
  have h := q3
  simp only [Flow.go_ret, Flow.goL_ret] at h
  obtain rfl := Option.some.inj h
  have h := q0
  simp only [Flow.go_ret, Flow.goL_ret] at h
  obtain rfl := Option.some.inj h
  exact fin
  refine wgo ?_
  repeat refine cj ?_
  refine Round.fx (k3, IntKind.i64.wrap (x5_3 + 1)) h (Nat.lt_succ_self k3) ?_
  exact fxs
  refine wgo ?_
  repeat refine cj ?_
  refine Round.fx (k3, IntKind.i64.wrap (x5_3 + 1)) h (Nat.lt_succ_self k3) ?_
  exact fxs
  refine wgo ?_
  repeat refine cj ?_
  refine Round.fx (k3, IntKind.i64.wrap (x5_3 + 1)) h (Nat.lt_succ_self k3) ?_
  exact fxs
  obtain rfl := Option.some.inj h
  have h := q3
  simp only [Flow.go_out, Flow.goL_out] at h
  try dsimp only at h
  refine wgo ?_
  repeat refine cj ?_
  refine Round.fx (k0, IntKind.i64.wrap (x3_0 + 1)) h (Nat.lt_succ_self k0) ?_
  exact fxs
  refine wgo ?_
  repeat refine cj ?_
  obtain ⟨f3, h3, q3⟩ := bd h
  rw [aCode_loop]
  refine aLoop_fx (α := Nat × Int) (fun p => (⟨95, [], [(0, .one (.l (rowsD api_Acc.D a0))), (2, .one (.v (.bool false))), (3, .one (.v (.int .i64 x3_0))), (4, .box [.d (.v (.int .i64 (rd a0 x3_0).Id)), .d (.v (.int .i64 (rd a0 x3_0).Member)), .d (.v (.int .i64 (rd a0 x3_0).Kind)), .d (.v (.int .i64 (rd a0 x3_0).Limit))]), (5, .one (.v (.int .i64 p.2)))]⟩ : S)) (fun p => novationref10_Accs.l2 a0 x3_0 p.1 p.2 = some f3) (fun p => p.1) (FUEL, 0) h3 ?_ ?_
  exact fxs
  rintro ⟨k3, x5_3⟩ h
  simp only at h
  obtain _ | k3 := k3
  exact absurd h (by simp [novationref10_Accs.l2])
  rw [novationref10_Accs.l2] at h
  refine wgo ?_
  repeat refine cj ?_
  refine kIf2 h (fun hb h => ?_) (fun hb h => ?_)
  refine wgo ?_
  repeat refine cj ?_
  refine kIf2 h (fun hb h => ?_) (fun hb h => ?_)
  obtain ⟨⟨hg10_6_0, hg10_6_1⟩, h⟩ := gd h
  refine wgo ?_
  repeat refine cj ?_
  refine kIf2 h (fun hb h => ?_) (fun hb h => ?_)
  refine wgo ?_
  repeat refine cj ?_
  refine kIf2 h (fun hb h => ?_) (fun hb h => ?_)
  obtain rfl := Option.some.inj h
  have h := q3
  simp only [Flow.go_ret, Flow.goL_ret] at h
  obtain rfl := Option.some.inj h
  have h := q0
  simp only [Flow.go_ret, Flow.goL_ret] at h
  obtain rfl := Option.some.inj h
  exact fin
  refine wgo ?_
  repeat refine cj ?_
  refine Round.fx (k3, IntKind.i64.wrap (x5_3 + 1)) h (Nat.lt_succ_self k3) ?_
  exact fxs
  refine wgo ?_
  repeat refine cj ?_
  refine Round.fx (k3, IntKind.i64.wrap (x5_3 + 1)) h (Nat.lt_succ_self k3) ?_
  exact fxs
  refine wgo ?_
  repeat refine cj ?_
  refine Round.fx (k3, IntKind.i64.wrap (x5_3 + 1)) h (Nat.lt_succ_self k3) ?_
  exact fxs
  obtain rfl := Option.some.inj h
  have h := q3
  simp only [Flow.go_out, Flow.goL_out] at h
  try dsimp only at h
  refine wgo ?_
  repeat refine cj ?_
  refine Round.fx (k0, IntKind.i64.wrap (x3_0 + 1)) h (Nat.lt_succ_self k0) ?_
  exact fxs
  obtain rfl := Option.some.inj h
  have h := q0
  simp only [Flow.go_ret, Flow.goL_ret] at h
  obtain rfl := Option.some.inj h
  exact fin
  obtain rfl := Option.some.inj h
  have h := q0
  simp only [Flow.go_ret, Flow.goL_ret] at h
  obtain rfl := Option.some.inj h
  exact fin
  obtain rfl := Option.some.inj h
  have h := q0
  simp only [Flow.go_ret, Flow.goL_ret] at h
  obtain rfl := Option.some.inj h
  exact fin
  refine wgo ?_
  repeat refine cj ?_
  refine kIf3 h (fun hb h => ?_) (fun hb h => ?_)
  refine wgo ?_
  repeat refine cj ?_
  refine kIf3 h (fun hb h => ?_) (fun hb h => ?_)
  refine wgo ?_
  repeat refine cj ?_
  refine kIf2 h (fun hb h => ?_) (fun hb h => ?_)
  obtain ⟨⟨hg5_47_0, hg5_47_1⟩, h⟩ := gd h
  refine wgo ?_
  repeat refine cj ?_
  refine kIf2 h (fun hb h => ?_) (fun hb h => ?_)
  obtain rfl := Option.some.inj h
  have h := q0
  simp only [Flow.go_ret, Flow.goL_ret] at h
  obtain rfl := Option.some.inj h
  exact fin
  refine wgo ?_
  repeat refine cj ?_
  obtain ⟨f3, h3, q3⟩ := bd h
  rw [aCode_loop]
  refine aLoop_fx (α := Nat × Int) (fun p => (⟨95, [], [(0, .one (.l (rowsD api_Acc.D a0))), (2, .one (.v (.bool false))), (3, .one (.v (.int .i64 x3_0))), (4, .box [.d (.v (.int .i64 (rd a0 x3_0).Id)), .d (.v (.int .i64 (rd a0 x3_0).Member)), .d (.v (.int .i64 (rd a0 x3_0).Kind)), .d (.v (.int .i64 (rd a0 x3_0).Limit))]), (5, .one (.v (.int .i64 p.2)))]⟩ : S)) (fun p => novationref10_Accs.l3 a0 x3_0 p.1 p.2 = some f3) (fun p => p.1) (FUEL, 0) h3 ?_ ?_
  exact fxs
  rintro ⟨k3, x5_3⟩ h
  simp only at h
  obtain _ | k3 := k3
  exact absurd h (by simp [novationref10_Accs.l3])
  rw [novationref10_Accs.l3] at h
  refine wgo ?_
  repeat refine cj ?_
  refine kIf2 h (fun hb h => ?_) (fun hb h => ?_)
  refine wgo ?_
  repeat refine cj ?_
  refine kIf2 h (fun hb h => ?_) (fun hb h => ?_)
  obtain ⟨⟨hg10_6_0, hg10_6_1⟩, h⟩ := gd h
  refine wgo ?_
  repeat refine cj ?_
  refine kIf2 h (fun hb h => ?_) (fun hb h => ?_)
  refine wgo ?_
  repeat refine cj ?_
  refine kIf2 h (fun hb h => ?_) (fun hb h => ?_)
  obtain rfl := Option.some.inj h
  have h := q3
  simp only [Flow.go_ret, Flow.goL_ret] at h
  obtain rfl := Option.some.inj h
  have h := q0
  simp only [Flow.go_ret, Flow.goL_ret] at h
  obtain rfl := Option.some.inj h
  exact fin
  refine wgo ?_
  repeat refine cj ?_
  refine Round.fx (k3, IntKind.i64.wrap (x5_3 + 1)) h (Nat.lt_succ_self k3) ?_
  exact fxs
  refine wgo ?_
  repeat refine cj ?_
  refine Round.fx (k3, IntKind.i64.wrap (x5_3 + 1)) h (Nat.lt_succ_self k3) ?_
  exact fxs
  refine wgo ?_
  repeat refine cj ?_
  refine Round.fx (k3, IntKind.i64.wrap (x5_3 + 1)) h (Nat.lt_succ_self k3) ?_
  exact fxs
  obtain rfl := Option.some.inj h
  have h := q3
  simp only [Flow.go_out, Flow.goL_out] at h
  try dsimp only at h
  refine wgo ?_
  repeat refine cj ?_
  refine Round.fx (k0, IntKind.i64.wrap (x3_0 + 1)) h (Nat.lt_succ_self k0) ?_
  exact fxs
  refine wgo ?_
  repeat refine cj ?_
  obtain ⟨f3, h3, q3⟩ := bd h
  rw [aCode_loop]
  refine aLoop_fx (α := Nat × Int) (fun p => (⟨95, [], [(0, .one (.l (rowsD api_Acc.D a0))), (2, .one (.v (.bool false))), (3, .one (.v (.int .i64 x3_0))), (4, .box [.d (.v (.int .i64 (rd a0 x3_0).Id)), .d (.v (.int .i64 (rd a0 x3_0).Member)), .d (.v (.int .i64 (rd a0 x3_0).Kind)), .d (.v (.int .i64 (rd a0 x3_0).Limit))]), (5, .one (.v (.int .i64 p.2)))]⟩ : S)) (fun p => novationref10_Accs.l4 a0 x3_0 p.1 p.2 = some f3) (fun p => p.1) (FUEL, 0) h3 ?_ ?_
  exact fxs
  rintro ⟨k3, x5_3⟩ h
  simp only at h
  obtain _ | k3 := k3
  exact absurd h (by simp [novationref10_Accs.l4])
  rw [novationref10_Accs.l4] at h
  refine wgo ?_
  repeat refine cj ?_
  refine kIf2 h (fun hb h => ?_) (fun hb h => ?_)
  refine wgo ?_
  repeat refine cj ?_
  refine kIf2 h (fun hb h => ?_) (fun hb h => ?_)
  obtain ⟨⟨hg10_6_0, hg10_6_1⟩, h⟩ := gd h
  refine wgo ?_
  repeat refine cj ?_
  refine kIf2 h (fun hb h => ?_) (fun hb h => ?_)
  refine wgo ?_
  repeat refine cj ?_
  refine kIf2 h (fun hb h => ?_) (fun hb h => ?_)
  obtain rfl := Option.some.inj h
  have h := q3
  simp only [Flow.go_ret, Flow.goL_ret] at h
  obtain rfl := Option.some.inj h
  have h := q0
  simp only [Flow.go_ret, Flow.goL_ret] at h
  obtain rfl := Option.some.inj h
  exact fin
  refine wgo ?_
  repeat refine cj ?_
  refine Round.fx (k3, IntKind.i64.wrap (x5_3 + 1)) h (Nat.lt_succ_self k3) ?_
  exact fxs
  refine wgo ?_
  repeat refine cj ?_
  refine Round.fx (k3, IntKind.i64.wrap (x5_3 + 1)) h (Nat.lt_succ_self k3) ?_
  exact fxs
  refine wgo ?_
  repeat refine cj ?_
  refine Round.fx (k3, IntKind.i64.wrap (x5_3 + 1)) h (Nat.lt_succ_self k3) ?_
  exact fxs
  obtain rfl := Option.some.inj h
  have h := q3
  simp only [Flow.go_out, Flow.goL_out] at h
  try dsimp only at h
  refine wgo ?_
  repeat refine cj ?_
  refine Round.fx (k0, IntKind.i64.wrap (x3_0 + 1)) h (Nat.lt_succ_self k0) ?_
  exact fxs
  obtain rfl := Option.some.inj h
  have h := q0
  simp only [Flow.go_ret, Flow.goL_ret] at h
  obtain rfl := Option.some.inj h
  exact fin
  obtain rfl := Option.some.inj h
  have h := q0
  simp only [Flow.go_ret, Flow.goL_ret] at h
  obtain rfl := Option.some.inj h
  exact fin
  obtain rfl := Option.some.inj h
  have h := q0
  simp only [Flow.go_ret, Flow.goL_ret] at h
  obtain rfl := Option.some.inj h
  exact fin
  obtain rfl := Option.some.inj h
  have h := q0
  simp only [Flow.go_ret, Flow.goL_ret] at h
  obtain rfl := Option.some.inj h
  exact fin
  obtain rfl := Option.some.inj h
  have h := q0
  simp only [Flow.go_ret, Flow.goL_ret] at h
  obtain rfl := Option.some.inj h
  exact fin
  obtain rfl := Option.some.inj h
  have h := q0
  simp only [Flow.go_ret, Flow.goL_ret] at h
  obtain rfl := Option.some.inj h
  exact fin
  obtain rfl := Option.some.inj h
  have h := q0
  simp only [Flow.go_out, Flow.goL_out] at h
  try dsimp only at h
  obtain rfl := Option.some.inj h
  exact fin
end Go.Ax

/- The walk of novationref10_find, printed by gen.py. -/
set_option linter.unusedSimpArgs false
set_option linter.unusedVariables false
namespace Go.Ax
open Go Go.Proofs
set_option maxRecDepth 100000
set_option maxHeartbeats 4000000
theorem novationref10_find.spec {a0 : List api_Acc} {a1 : Int} {r : api_Acc × Bool} (h : novationref10_find.f a0 a1 = some r) : FSpec Tryz.prog 43 [(false, [.l (rowsD api_Acc.D a0)]), (false, [.v (.int .i64 a1)])] [.agg (api_Acc.D r.1), .one (.d (.v (.bool r.2)))] := by
  unfold novationref10_find.f at h
  refine fspec_data mixed Tryz.func43 rfl (by decide) [0, 1, 4, 5, 6] (rs := [.cell 4 61, .tmp 5]) rfl (by decide) (n := 25) rfl (by simp) ?_
  refine wgo ?_
  repeat refine cj ?_
  obtain ⟨f0, h0, q0⟩ := bd h
  rw [aCode_loop]
  refine aLoop_fx (α := Nat × Int) (fun p => (⟨25, [], [(0, .one (.l (rowsD api_Acc.D a0))), (1, .one (.v (.int .i64 a1))), (4, .box [.d (.v (.int .i64 0)), .d (.v (.int .i64 0)), .d (.v (.int .i64 0)), .d (.v (.int .i64 0))]), (5, .one (.v (.bool false))), (6, .one (.v (.int .i64 p.2)))]⟩ : S)) (fun p => novationref10_find.l0 a0 a1 p.1 p.2 = some f0) (fun p => p.1) (FUEL, 0) h0 ?_ ?_
  exact fxs
  rintro ⟨k0, x6_0⟩ h
  simp only at h
  obtain _ | k0 := k0
  exact absurd h (by simp [novationref10_find.l0])
  rw [novationref10_find.l0] at h
  refine wgo ?_
  repeat refine cj ?_
  refine kIf2 h (fun hb h => ?_) (fun hb h => ?_)
  obtain ⟨⟨hg4_2_0, hg4_2_1⟩, h⟩ := gd h
  refine wgo ?_
  repeat refine cj ?_
  refine kIf2 h (fun hb h => ?_) (fun hb h => ?_)
  obtain rfl := Option.some.inj h
  have h := q0
  simp only [Flow.go_ret, Flow.goL_ret] at h
  obtain rfl := Option.some.inj h
  exact fin
  refine wgo ?_
  repeat refine cj ?_
  refine Round.fx (k0, IntKind.i64.wrap (x6_0 + 1)) h (Nat.lt_succ_self k0) ?_
  exact fxs
  obtain rfl := Option.some.inj h
  have h := q0
  simp only [Flow.go_out, Flow.goL_out] at h
  try dsimp only at h
  obtain rfl := Option.some.inj h
  exact fin
end Go.Ax

/- The walk of novationref10_Find, printed by gen.py. -/
set_option linter.unusedSimpArgs false
set_option linter.unusedVariables false
namespace Go.Ax
open Go Go.Proofs
set_option maxRecDepth 100000
set_option maxHeartbeats 4000000
theorem novationref10_Find.spec {a0 : List api_Acc} {a1 : Int} {r : api_Acc × Bool} (h : novationref10_Find.f a0 a1 = some r) : FSpec Tryz.prog 14 [(false, [.l (rowsD api_Acc.D a0)]), (false, [.v (.int .i64 a1)])] [.agg (api_Acc.D r.1), .one (.d (.v (.bool r.2)))] := by
  unfold novationref10_Find.f at h
  refine fspec_data mixed Tryz.func14 rfl (by decide) [0, 1, 4, 5] (rs := [.cell 4 61, .tmp 5]) rfl (by decide) (n := 15) rfl (by simp) ?_
  refine wgo ?_
  repeat refine cj ?_
  obtain ⟨y1_1, hy1_1, h⟩ := bd h
  refine aCall_of (novationref10_Accs.spec hy1_1) ?_
  refine wgo ?_
  repeat refine cj ?_
  refine kIf2 h (fun hb h => ?_) (fun hb h => ?_)
  obtain rfl := Option.some.inj h
  exact fin
  refine wgo ?_
  repeat refine cj ?_
  obtain ⟨y3_2, hy3_2, h⟩ := bd h
  refine aCall_of (novationref10_find.spec hy3_2) ?_
  obtain rfl := Option.some.inj h
  exact fin
end Go.Ax
