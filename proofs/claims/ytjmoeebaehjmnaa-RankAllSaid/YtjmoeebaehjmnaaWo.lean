/- The walk of novationref10_Accs, printed by gen.py. -/
import Derived.Test.YtjmoeebaehjmnaaGa
import Derived.Test.YtjmoeebaehjmnaaGs
set_option linter.unusedVariables false
set_option linter.unusedSimpArgs false
set_option linter.unusedSimpArgs false
set_option linter.unusedVariables false
namespace Go.Ax
open Go Go.Proofs
set_option maxRecDepth 100000
set_option maxHeartbeats 4000000
theorem novationref10_Accs.spec {a0 : List api_Acc} {r : Bool} (h : novationref10_Accs.f a0 = some r) : FSpec Try.prog 99 [(false, [.l (rowsD api_Acc.D a0)])] [.one (.d (.v (.bool r)))] := by
  unfold novationref10_Accs.f at h
  refine fspec_data mixed Try.func99 rfl (by decide) [0, 2, 3, 4, 5] (rs := [.tmp 2]) rfl (by decide) (n := 95) rfl (by simp) ?_
  refine wgo ?_
  repeat refine cj ?_
  obtain ⟨f0, h0, q0⟩ := bd h
  rw [aCode_loop]
  refine aLoop_fx (α := Nat × Int) (fun p => (⟨95, [], [(0, .one (.l (rowsD api_Acc.D a0))), (2, .one (.v (.bool false))), (3, .one (.v (.int .i64 p.2))), (4, .none), (5, .none)]⟩ : S)) (fun p => novationref10_Accs.l0 a0 p.1 p.2 = some f0) (fun p => p.1) (FUEL, 0) h0 ?_ ?_
  exact fxs
  rintro ⟨k0, x3_0⟩ h
  simp only at h
  obtain _ | k0 := k0
  exact absurd h (by simp [novationref10_Accs.l0])
  rw [novationref10_Accs.l0] at h
  refine wgo ?_
  repeat refine cj ?_
  refine kIf2 h (fun hb h => ?_) (fun hb h => ?_)
  obtain ⟨⟨hg4_2_0, hg4_2_1⟩, h⟩ := gd h
  refine wgo ?_
  repeat refine cj ?_
  refine kIf3 h (fun hb h => ?_) (fun hb h => ?_)
  refine wgo ?_
  repeat refine cj ?_
  refine kIf3 h (fun hb h => ?_) (fun hb h => ?_)
  refine wgo ?_
  repeat refine cj ?_
  refine kIf3 h (fun hb h => ?_) (fun hb h => ?_)
  refine wgo ?_
  repeat refine cj ?_
  refine kIf3 h (fun hb h => ?_) (fun hb h => ?_)
  refine wgo ?_
  repeat refine cj ?_
  refine kIf2 h (fun hb h => ?_) (fun hb h => ?_)
  refine wgo ?_
  repeat refine cj ?_
  refine kIf3 h (fun hb h => ?_) (fun hb h => ?_)
  refine wgo ?_
  repeat refine cj ?_
  refine kIf3 h (fun hb h => ?_) (fun hb h => ?_)
  refine wgo ?_
  repeat refine cj ?_
  refine kIf3 h (fun hb h => ?_) (fun hb h => ?_)
  refine wgo ?_
  repeat refine cj ?_
  refine kIf2 h (fun hb h => ?_) (fun hb h => ?_)
  obtain ⟨⟨hg5_47_0, hg5_47_1⟩, h⟩ := gd h
  refine wgo ?_
  repeat refine cj ?_
  refine kIf2 h (fun hb h => ?_) (fun hb h => ?_)
  obtain rfl := Option.some.inj h
  have h := q0
  simp only [Flow.go_ret, Flow.goL_ret] at h
  obtain rfl := Option.some.inj h
  exact fin
  refine wgo ?_
  repeat refine cj ?_
  obtain ⟨f3, h3, q3⟩ := bd h
  rw [aCode_loop]
  refine aLoop_fx (α := Nat × Int) (fun p => (⟨95, [], [(0, .one (.l (rowsD api_Acc.D a0))), (2, .one (.v (.bool false))), (3, .one (.v (.int .i64 x3_0))), (4, .box [.d (.v (.int .i64 (rd a0 x3_0).Id)), .d (.v (.int .i64 (rd a0 x3_0).Member)), .d (.v (.int .i64 (rd a0 x3_0).Kind)), .d (.v (.int .i64 (rd a0 x3_0).Limit))]), (5, .one (.v (.int .i64 p.2)))]⟩ : S)) (fun p => novationref10_Accs.l1 a0 x3_0 p.1 p.2 = some f3) (fun p => p.1) (FUEL, 0) h3 ?_ ?_
  exact fxs
  rintro ⟨k3, x5_3⟩ h
  simp only at h
  obtain _ | k3 := k3
  exact absurd h (by simp [novationref10_Accs.l1])
  rw [novationref10_Accs.l1] at h
  refine wgo ?_
  repeat refine cj ?_
  refine kIf2 h (fun hb h => ?_) (fun hb h => ?_)
  refine wgo ?_
  repeat refine cj ?_
  refine kIf2 h (fun hb h => ?_) (fun hb h => ?_)
  obtain ⟨⟨hg10_6_0, hg10_6_1⟩, h⟩ := gd h
  refine wgo ?_
  repeat refine cj ?_
  refine kIf2 h (fun hb h => ?_) (fun hb h => ?_)
  refine wgo ?_
  repeat refine cj ?_
  refine kIf2 h (fun hb h => ?_) (fun hb h => ?_)
  obtain rfl := Option.some.inj h
  have h := q3
  simp only [Flow.go_ret, Flow.goL_ret] at h
  obtain rfl := Option.some.inj h
  have h := q0
  simp only [Flow.go_ret, Flow.goL_ret] at h
  obtain rfl := Option.some.inj h
  exact fin
  refine wgo ?_
  repeat refine cj ?_
  refine Round.fx (k3, IntKind.i64.wrap (x5_3 + 1)) h (Nat.lt_succ_self k3) ?_
  exact fxs
  refine wgo ?_
  repeat refine cj ?_
  refine Round.fx (k3, IntKind.i64.wrap (x5_3 + 1)) h (Nat.lt_succ_self k3) ?_
  exact fxs
  refine wgo ?_
  repeat refine cj ?_
  refine Round.fx (k3, IntKind.i64.wrap (x5_3 + 1)) h (Nat.lt_succ_self k3) ?_
  exact fxs
  obtain rfl := Option.some.inj h
  have h := q3
  simp only [Flow.go_out, Flow.goL_out] at h
  try dsimp only at h
  refine wgo ?_
  repeat refine cj ?_
  refine Round.fx (k0, IntKind.i64.wrap (x3_0 + 1)) h (Nat.lt_succ_self k0) ?_
  exact fxs
  refine wgo ?_
  repeat refine cj ?_
  obtain ⟨f3, h3, q3⟩ := bd h
  rw [aCode_loop]
  refine aLoop_fx (α := Nat × Int) (fun p => (⟨95, [], [(0, .one (.l (rowsD api_Acc.D a0))), (2, .one (.v (.bool false))), (3, .one (.v (.int .i64 x3_0))), (4, .box [.d (.v (.int .i64 (rd a0 x3_0).Id)), .d (.v (.int .i64 (rd a0 x3_0).Member)), .d (.v (.int .i64 (rd a0 x3_0).Kind)), .d (.v (.int .i64 (rd a0 x3_0).Limit))]), (5, .one (.v (.int .i64 p.2)))]⟩ : S)) (fun p => novationref10_Accs.l2 a0 x3_0 p.1 p.2 = some f3) (fun p => p.1) (FUEL, 0) h3 ?_ ?_
  exact fxs
  rintro ⟨k3, x5_3⟩ h
  simp only at h
  obtain _ | k3 := k3
  exact absurd h (by simp [novationref10_Accs.l2])
  rw [novationref10_Accs.l2] at h
  refine wgo ?_
  repeat refine cj ?_
  refine kIf2 h (fun hb h => ?_) (fun hb h => ?_)
  refine wgo ?_
  repeat refine cj ?_
  refine kIf2 h (fun hb h => ?_) (fun hb h => ?_)
  obtain ⟨⟨hg10_6_0, hg10_6_1⟩, h⟩ := gd h
  refine wgo ?_
  repeat refine cj ?_
  refine kIf2 h (fun hb h => ?_) (fun hb h => ?_)
  refine wgo ?_
  repeat refine cj ?_
  refine kIf2 h (fun hb h => ?_) (fun hb h => ?_)
  obtain rfl := Option.some.inj h
  have h := q3
  simp only [Flow.go_ret, Flow.goL_ret] at h
  obtain rfl := Option.some.inj h
  have h := q0
  simp only [Flow.go_ret, Flow.goL_ret] at h
  obtain rfl := Option.some.inj h
  exact fin
  refine wgo ?_
  repeat refine cj ?_
  refine Round.fx (k3, IntKind.i64.wrap (x5_3 + 1)) h (Nat.lt_succ_self k3) ?_
  exact fxs
  refine wgo ?_
  repeat refine cj ?_
  refine Round.fx (k3, IntKind.i64.wrap (x5_3 + 1)) h (Nat.lt_succ_self k3) ?_
  exact fxs
  refine wgo ?_
  repeat refine cj ?_
  refine Round.fx (k3, IntKind.i64.wrap (x5_3 + 1)) h (Nat.lt_succ_self k3) ?_
  exact fxs
  obtain rfl := Option.some.inj h
  have h := q3
  simp only [Flow.go_out, Flow.goL_out] at h
  try dsimp only at h
  refine wgo ?_
  repeat refine cj ?_
  refine Round.fx (k0, IntKind.i64.wrap (x3_0 + 1)) h (Nat.lt_succ_self k0) ?_
  exact fxs
  obtain rfl := Option.some.inj h
  have h := q0
  simp only [Flow.go_ret, Flow.goL_ret] at h
  obtain rfl := Option.some.inj h
  exact fin
  obtain rfl := Option.some.inj h
  have h := q0
  simp only [Flow.go_ret, Flow.goL_ret] at h
  obtain rfl := Option.some.inj h
  exact fin
  obtain rfl := Option.some.inj h
  have h := q0
  simp only [Flow.go_ret, Flow.goL_ret] at h
  obtain rfl := Option.some.inj h
  exact fin
  refine wgo ?_
  repeat refine cj ?_
  refine kIf3 h (fun hb h => ?_) (fun hb h => ?_)
  refine wgo ?_
  repeat refine cj ?_
  refine kIf3 h (fun hb h => ?_) (fun hb h => ?_)
  refine wgo ?_
  repeat refine cj ?_
  refine kIf2 h (fun hb h => ?_) (fun hb h => ?_)
  obtain ⟨⟨hg5_47_0, hg5_47_1⟩, h⟩ := gd h
  refine wgo ?_
  repeat refine cj ?_
  refine kIf2 h (fun hb h => ?_) (fun hb h => ?_)
  obtain rfl := Option.some.inj h
  have h := q0
  simp only [Flow.go_ret, Flow.goL_ret] at h
  obtain rfl := Option.some.inj h
  exact fin
  refine wgo ?_
  repeat refine cj ?_
  obtain ⟨f3, h3, q3⟩ := bd h
  rw [aCode_loop]
  refine aLoop_fx (α := Nat × Int) (fun p => (⟨95, [], [(0, .one (.l (rowsD api_Acc.D a0))), (2, .one (.v (.bool false))), (3, .one (.v (.int .i64 x3_0))), (4, .box [.d (.v (.int .i64 (rd a0 x3_0).Id)), .d (.v (.int .i64 (rd a0 x3_0).Member)), .d (.v (.int .i64 (rd a0 x3_0).Kind)), .d (.v (.int .i64 (rd a0 x3_0).Limit))]), (5, .one (.v (.int .i64 p.2)))]⟩ : S)) (fun p => novationref10_Accs.l3 a0 x3_0 p.1 p.2 = some f3) (fun p => p.1) (FUEL, 0) h3 ?_ ?_
  exact fxs
  rintro ⟨k3, x5_3⟩ h
  simp only at h
  obtain _ | k3 := k3
  exact absurd h (by simp [novationref10_Accs.l3])
  rw [novationref10_Accs.l3] at h
  refine wgo ?_
  repeat refine cj ?_
  refine kIf2 h (fun hb h => ?_) (fun hb h => ?_)
  refine wgo ?_
  repeat refine cj ?_
  refine kIf2 h (fun hb h => ?_) (fun hb h => ?_)
  obtain ⟨⟨hg10_6_0, hg10_6_1⟩, h⟩ := gd h
  refine wgo ?_
  repeat refine cj ?_
  refine kIf2 h (fun hb h => ?_) (fun hb h => ?_)
  refine wgo ?_
  repeat refine cj ?_
  refine kIf2 h (fun hb h => ?_) (fun hb h => ?_)
  obtain rfl := Option.some.inj h
  have h := q3
  simp only [Flow.go_ret, Flow.goL_ret] at h
  obtain rfl := Option.some.inj h
  have h := q0
  simp only [Flow.go_ret, Flow.goL_ret] at h
  obtain rfl := Option.some.inj h
  exact fin
  refine wgo ?_
  repeat refine cj ?_
  refine Round.fx (k3, IntKind.i64.wrap (x5_3 + 1)) h (Nat.lt_succ_self k3) ?_
  exact fxs
  refine wgo ?_
  repeat refine cj ?_
  refine Round.fx (k3, IntKind.i64.wrap (x5_3 + 1)) h (Nat.lt_succ_self k3) ?_
  exact fxs
  refine wgo ?_
  repeat refine cj ?_
  refine Round.fx (k3, IntKind.i64.wrap (x5_3 + 1)) h (Nat.lt_succ_self k3) ?_
  exact fxs
  obtain rfl := Option.some.inj h
  have h := q3
  simp only [Flow.go_out, Flow.goL_out] at h
  try dsimp only at h
  refine wgo ?_
  repeat refine cj ?_
  refine Round.fx (k0, IntKind.i64.wrap (x3_0 + 1)) h (Nat.lt_succ_self k0) ?_
  exact fxs
  refine wgo ?_
  repeat refine cj ?_
  obtain ⟨f3, h3, q3⟩ := bd h
  rw [aCode_loop]
  refine aLoop_fx (α := Nat × Int) (fun p => (⟨95, [], [(0, .one (.l (rowsD api_Acc.D a0))), (2, .one (.v (.bool false))), (3, .one (.v (.int .i64 x3_0))), (4, .box [.d (.v (.int .i64 (rd a0 x3_0).Id)), .d (.v (.int .i64 (rd a0 x3_0).Member)), .d (.v (.int .i64 (rd a0 x3_0).Kind)), .d (.v (.int .i64 (rd a0 x3_0).Limit))]), (5, .one (.v (.int .i64 p.2)))]⟩ : S)) (fun p => novationref10_Accs.l4 a0 x3_0 p.1 p.2 = some f3) (fun p => p.1) (FUEL, 0) h3 ?_ ?_
  exact fxs
  rintro ⟨k3, x5_3⟩ h
  simp only at h
  obtain _ | k3 := k3
  exact absurd h (by simp [novationref10_Accs.l4])
  rw [novationref10_Accs.l4] at h
  refine wgo ?_
  repeat refine cj ?_
  refine kIf2 h (fun hb h => ?_) (fun hb h => ?_)
  refine wgo ?_
  repeat refine cj ?_
  refine kIf2 h (fun hb h => ?_) (fun hb h => ?_)
  obtain ⟨⟨hg10_6_0, hg10_6_1⟩, h⟩ := gd h
  refine wgo ?_
  repeat refine cj ?_
  refine kIf2 h (fun hb h => ?_) (fun hb h => ?_)
  refine wgo ?_
  repeat refine cj ?_
  refine kIf2 h (fun hb h => ?_) (fun hb h => ?_)
  obtain rfl := Option.some.inj h
  have h := q3
  simp only [Flow.go_ret, Flow.goL_ret] at h
  obtain rfl := Option.some.inj h
  have h := q0
  simp only [Flow.go_ret, Flow.goL_ret] at h
  obtain rfl := Option.some.inj h
  exact fin
  refine wgo ?_
  repeat refine cj ?_
  refine Round.fx (k3, IntKind.i64.wrap (x5_3 + 1)) h (Nat.lt_succ_self k3) ?_
  exact fxs
  refine wgo ?_
  repeat refine cj ?_
  refine Round.fx (k3, IntKind.i64.wrap (x5_3 + 1)) h (Nat.lt_succ_self k3) ?_
  exact fxs
  refine wgo ?_
  repeat refine cj ?_
  refine Round.fx (k3, IntKind.i64.wrap (x5_3 + 1)) h (Nat.lt_succ_self k3) ?_
  exact fxs
  obtain rfl := Option.some.inj h
  have h := q3
  simp only [Flow.go_out, Flow.goL_out] at h
  try dsimp only at h
  refine wgo ?_
  repeat refine cj ?_
  refine Round.fx (k0, IntKind.i64.wrap (x3_0 + 1)) h (Nat.lt_succ_self k0) ?_
  exact fxs
  obtain rfl := Option.some.inj h
  have h := q0
  simp only [Flow.go_ret, Flow.goL_ret] at h
  obtain rfl := Option.some.inj h
  exact fin
  obtain rfl := Option.some.inj h
  have h := q0
  simp only [Flow.go_ret, Flow.goL_ret] at h
  obtain rfl := Option.some.inj h
  exact fin
  obtain rfl := Option.some.inj h
  have h := q0
  simp only [Flow.go_ret, Flow.goL_ret] at h
  obtain rfl := Option.some.inj h
  exact fin
  obtain rfl := Option.some.inj h
  have h := q0
  simp only [Flow.go_ret, Flow.goL_ret] at h
  obtain rfl := Option.some.inj h
  exact fin
  obtain rfl := Option.some.inj h
  have h := q0
  simp only [Flow.go_ret, Flow.goL_ret] at h
  obtain rfl := Option.some.inj h
  exact fin
  obtain rfl := Option.some.inj h
  have h := q0
  simp only [Flow.go_ret, Flow.goL_ret] at h
  obtain rfl := Option.some.inj h
  exact fin
  obtain rfl := Option.some.inj h
  have h := q0
  simp only [Flow.go_out, Flow.goL_out] at h
  try dsimp only at h
  obtain rfl := Option.some.inj h
  exact fin
end Go.Ax

/- The walk of novationref10_Members, printed by gen.py. -/
set_option linter.unusedSimpArgs false
set_option linter.unusedVariables false
namespace Go.Ax
open Go Go.Proofs
set_option maxRecDepth 100000
set_option maxHeartbeats 4000000
theorem novationref10_Members.spec {a0 : List api_Member} {r : Bool} (h : novationref10_Members.f a0 = some r) : FSpec Try.prog 97 [(false, [.l (rowsD api_Member.D a0)])] [.one (.d (.v (.bool r)))] := by
  unfold novationref10_Members.f at h
  refine fspec_data mixed Try.func97 rfl (by decide) [0, 2, 3] (rs := [.tmp 2]) rfl (by decide) (n := 58) rfl (by simp) ?_
  refine wgo ?_
  repeat refine cj ?_
  obtain ⟨f0, h0, q0⟩ := bd h
  rw [aCode_loop]
  refine aLoop_fx (α := Nat × Int) (fun p => (⟨58, [], [(0, .one (.l (rowsD api_Member.D a0))), (2, .one (.v (.bool false))), (3, .one (.v (.int .i64 p.2)))]⟩ : S)) (fun p => novationref10_Members.l0 a0 p.1 p.2 = some f0) (fun p => p.1) (FUEL, 0) h0 ?_ ?_
  exact fxs
  rintro ⟨k0, x3_0⟩ h
  simp only at h
  obtain _ | k0 := k0
  exact absurd h (by simp [novationref10_Members.l0])
  rw [novationref10_Members.l0] at h
  refine wgo ?_
  repeat refine cj ?_
  refine kIf2 h (fun hb h => ?_) (fun hb h => ?_)
  obtain ⟨⟨hg4_2_0, hg4_2_1⟩, h⟩ := gd h
  refine wgo ?_
  repeat refine cj ?_
  refine kIf3 h (fun hb h => ?_) (fun hb h => ?_)
  refine wgo ?_
  repeat refine cj ?_
  refine kIf3 h (fun hb h => ?_) (fun hb h => ?_)
  refine wgo ?_
  repeat refine cj ?_
  refine kIf3 h (fun hb h => ?_) (fun hb h => ?_)
  refine wgo ?_
  repeat refine cj ?_
  refine kIf3 h (fun hb h => ?_) (fun hb h => ?_)
  refine wgo ?_
  repeat refine cj ?_
  refine kIf2 h (fun hb h => ?_) (fun hb h => ?_)
  obtain ⟨⟨hg4_42_0, hg4_42_1⟩, h⟩ := gd h
  refine wgo ?_
  repeat refine cj ?_
  refine kIf2 h (fun hb h => ?_) (fun hb h => ?_)
  obtain rfl := Option.some.inj h
  have h := q0
  simp only [Flow.go_ret, Flow.goL_ret] at h
  obtain rfl := Option.some.inj h
  exact fin
  refine wgo ?_
  repeat refine cj ?_
  refine Round.fx (k0, IntKind.i64.wrap (x3_0 + 1)) h (Nat.lt_succ_self k0) ?_
  exact fxs
  refine wgo ?_
  repeat refine cj ?_
  refine Round.fx (k0, IntKind.i64.wrap (x3_0 + 1)) h (Nat.lt_succ_self k0) ?_
  exact fxs
  obtain rfl := Option.some.inj h
  have h := q0
  simp only [Flow.go_ret, Flow.goL_ret] at h
  obtain rfl := Option.some.inj h
  exact fin
  obtain rfl := Option.some.inj h
  have h := q0
  simp only [Flow.go_ret, Flow.goL_ret] at h
  obtain rfl := Option.some.inj h
  exact fin
  obtain rfl := Option.some.inj h
  have h := q0
  simp only [Flow.go_ret, Flow.goL_ret] at h
  obtain rfl := Option.some.inj h
  exact fin
  obtain rfl := Option.some.inj h
  have h := q0
  simp only [Flow.go_ret, Flow.goL_ret] at h
  obtain rfl := Option.some.inj h
  exact fin
  obtain rfl := Option.some.inj h
  have h := q0
  simp only [Flow.go_out, Flow.goL_out] at h
  try dsimp only at h
  obtain rfl := Option.some.inj h
  exact fin
end Go.Ax

/- The walk of novationref10_status, printed by gen.py. -/
set_option linter.unusedSimpArgs false
set_option linter.unusedVariables false
namespace Go.Ax
open Go Go.Proofs
set_option maxRecDepth 100000
set_option maxHeartbeats 4000000
theorem novationref10_status.spec {a0 : List api_Member} {a1 : Int} {r : Int} (h : novationref10_status.f a0 a1 = some r) : FSpec Try.prog 98 [(false, [.l (rowsD api_Member.D a0)]), (false, [.v (.int .i64 a1)])] [.one (.d (.v (.int .i64 r)))] := by
  unfold novationref10_status.f at h
  refine fspec_data mixed Try.func98 rfl (by decide) [0, 1, 4, 5] (rs := [.tmp 4]) rfl (by decide) (n := 24) rfl (by simp) ?_
  refine wgo ?_
  repeat refine cj ?_
  obtain ⟨f0, h0, q0⟩ := bd h
  rw [aCode_loop]
  refine aLoop_fx (α := Nat × Int) (fun p => (⟨24, [], [(0, .one (.l (rowsD api_Member.D a0))), (1, .one (.v (.int .i64 a1))), (4, .one (.v (.int .i64 0))), (5, .one (.v (.int .i64 p.2)))]⟩ : S)) (fun p => novationref10_status.l0 a0 a1 p.1 p.2 = some f0) (fun p => p.1) (FUEL, 0) h0 ?_ ?_
  exact fxs
  rintro ⟨k0, x5_0⟩ h
  simp only at h
  obtain _ | k0 := k0
  exact absurd h (by simp [novationref10_status.l0])
  rw [novationref10_status.l0] at h
  refine wgo ?_
  repeat refine cj ?_
  refine kIf2 h (fun hb h => ?_) (fun hb h => ?_)
  obtain ⟨⟨hg4_2_0, hg4_2_1⟩, h⟩ := gd h
  refine wgo ?_
  repeat refine cj ?_
  refine kIf2 h (fun hb h => ?_) (fun hb h => ?_)
  obtain rfl := Option.some.inj h
  have h := q0
  simp only [Flow.go_ret, Flow.goL_ret] at h
  obtain rfl := Option.some.inj h
  exact fin
  refine wgo ?_
  repeat refine cj ?_
  refine Round.fx (k0, IntKind.i64.wrap (x5_0 + 1)) h (Nat.lt_succ_self k0) ?_
  exact fxs
  obtain rfl := Option.some.inj h
  have h := q0
  simp only [Flow.go_out, Flow.goL_out] at h
  try dsimp only at h
  obtain rfl := Option.some.inj h
  exact fin
end Go.Ax

/- The walk of novationref10_RightRoll, printed by gen.py. -/
set_option linter.unusedSimpArgs false
set_option linter.unusedVariables false
namespace Go.Ax
open Go Go.Proofs
set_option maxRecDepth 100000
set_option maxHeartbeats 4000000
theorem novationref10_RightRoll.spec {a0 : List api_Member} {a1 : List api_Acc} {r : Bool} (h : novationref10_RightRoll.f a0 a1 = some r) : FSpec Try.prog 84 [(false, [.l (rowsD api_Member.D a0)]), (false, [.l (rowsD api_Acc.D a1)])] [.one (.d (.v (.bool r)))] := by
  unfold novationref10_RightRoll.f at h
  refine fspec_data mixed Try.func84 rfl (by decide) [0, 1, 4, 5] (rs := [.tmp 4]) rfl (by decide) (n := 28) rfl (by simp) ?_
  refine wgo ?_
  repeat refine cj ?_
  obtain ⟨y1_1, hy1_1, h⟩ := bd h
  refine aCall_of (novationref10_Members.spec hy1_1) ?_
  refine wgo ?_
  repeat refine cj ?_
  refine kIf3 h (fun hb h => ?_) (fun hb h => ?_)
  refine wgo ?_
  repeat refine cj ?_
  obtain ⟨y1_5, hy1_5, h⟩ := bd h
  refine aCall_of (novationref10_Accs.spec hy1_5) ?_
  refine wgo ?_
  repeat refine cj ?_
  refine kIf2 h (fun hb h => ?_) (fun hb h => ?_)
  obtain rfl := Option.some.inj h
  exact fin
  refine wgo ?_
  repeat refine cj ?_
  obtain ⟨f1, h1, q1⟩ := bd h
  rw [aCode_loop]
  refine aLoop_fx (α := Nat × Int) (fun p => (⟨28, [], [(0, .one (.l (rowsD api_Member.D a0))), (1, .one (.l (rowsD api_Acc.D a1))), (4, .one (.v (.bool false))), (5, .one (.v (.int .i64 p.2)))]⟩ : S)) (fun p => novationref10_RightRoll.l0 a0 a1 p.1 p.2 = some f1) (fun p => p.1) (FUEL, 0) h1 ?_ ?_
  exact fxs
  rintro ⟨k1, x5_1⟩ h
  simp only at h
  obtain _ | k1 := k1
  exact absurd h (by simp [novationref10_RightRoll.l0])
  rw [novationref10_RightRoll.l0] at h
  refine wgo ?_
  repeat refine cj ?_
  refine kIf2 h (fun hb h => ?_) (fun hb h => ?_)
  obtain ⟨⟨hg6_3_0, hg6_3_1⟩, h⟩ := gd h
  refine wgo ?_
  repeat refine cj ?_
  obtain ⟨y6_6, hy6_6, h⟩ := bd h
  refine aCall_of (novationref10_status.spec hy6_6) ?_
  refine wgo ?_
  repeat refine cj ?_
  refine kIf2 h (fun hb h => ?_) (fun hb h => ?_)
  obtain rfl := Option.some.inj h
  have h := q1
  simp only [Flow.go_ret, Flow.goL_ret] at h
  obtain rfl := Option.some.inj h
  exact fin
  refine wgo ?_
  repeat refine cj ?_
  refine Round.fx (k1, IntKind.i64.wrap (x5_1 + 1)) h (Nat.lt_succ_self k1) ?_
  exact fxs
  obtain rfl := Option.some.inj h
  have h := q1
  simp only [Flow.go_out, Flow.goL_out] at h
  try dsimp only at h
  obtain rfl := Option.some.inj h
  exact fin
  obtain rfl := Option.some.inj h
  exact fin
end Go.Ax
