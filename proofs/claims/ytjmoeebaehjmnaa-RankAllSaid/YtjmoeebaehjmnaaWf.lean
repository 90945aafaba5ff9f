/- The walk of roll_Accs, printed by gen.py. -/
import Derived.Test.YtjmoeebaehjmnaaGa
import Derived.Test.YtjmoeebaehjmnaaGs
set_option linter.unusedVariables false
set_option linter.unusedSimpArgs false
set_option linter.unusedSimpArgs false
set_option linter.unusedVariables false
namespace Go.Ax
open Go Go.Proofs
set_option maxRecDepth 100000
set_option maxHeartbeats 4000000
theorem roll_Accs.spec {a0 : List api_Acc} {r : Bool} (h : roll_Accs.f a0 = some r) : FSpec Try.prog 94 [(false, [.l (rowsD api_Acc.D a0)])] [.one (.d (.v (.bool r)))] := by
  unfold roll_Accs.f at h
  refine fspec_data mixed Try.func94 rfl (by decide) [0, 2, 3, 4, 5, 6, 7, 8] (rs := [.tmp 2]) rfl (by decide) (n := 77) rfl (by simp) ?_
  refine wgo ?_
  repeat refine cj ?_
  obtain ⟨f0, h0, q0⟩ := bd h
  rw [aCode_loop]
  refine aLoop_fx (α := Nat × (List Bool) × Int) (fun p => (⟨77, [], [(0, .one (.l (rowsD api_Acc.D a0))), (2, .one (.v (.bool false))), (3, .box (List.map (fun x => Leaf.d ((fun x => D.v (Value.bool x)) x)) p.2.1)), (4, .none), (5, .none), (6, .one (.l (rowsD api_Acc.D a0))), (7, .one (.v (.int .i64 (a0.length : Int)))), (8, .one (.v (.int .i64 p.2.2)))]⟩ : S)) (fun p => roll_Accs.l0 a0 p.1 p.2.1 p.2.2 = some f0) (fun p => p.1) (FUEL, ([false, false, false, false, false, false, false, false, false, false, false, false, false] : List Bool), 0) h0 ?_ ?_
  exact fxs
  rintro ⟨k0, x3_0, x8_0⟩ h
  simp only at h
  obtain _ | k0 := k0
  exact absurd h (by simp [roll_Accs.l0])
  rw [roll_Accs.l0] at h
  refine wgo ?_
  repeat refine cj ?_
  refine kIf2 h (fun hb h => ?_) (fun hb h => ?_)
  obtain ⟨⟨hg4_1_0, hg4_1_1⟩, h⟩ := gd h
  refine wgo ?_
  repeat refine cj ?_
  refine kIf3 h (fun hb h => ?_) (fun hb h => ?_)
  refine wgo ?_
  repeat refine cj ?_
  refine kIf3 h (fun hb h => ?_) (fun hb h => ?_)
  refine wgo ?_
  repeat refine cj ?_
  refine kIf3 h (fun hb h => ?_) (fun hb h => ?_)
  refine wgo ?_
  repeat refine cj ?_
  refine kIf3 h (fun hb h => ?_) (fun hb h => ?_)
  refine wgo ?_
  repeat refine cj ?_
  refine kIf2 h (fun hb h => ?_) (fun hb h => ?_)
  refine wgo ?_
  repeat refine cj ?_
  refine kIf3 h (fun hb h => ?_) (fun hb h => ?_)
  refine wgo ?_
  repeat refine cj ?_
  refine kIf3 h (fun hb h => ?_) (fun hb h => ?_)
  refine wgo ?_
  repeat refine cj ?_
  refine kIf3 h (fun hb h => ?_) (fun hb h => ?_)
  refine wgo ?_
  repeat refine cj ?_
  refine kIf2 h (fun hb h => ?_) (fun hb h => ?_)
  obtain ⟨⟨hg5_45_0, hg5_45_1⟩, h⟩ := gd h
  refine wgo ?_
  repeat refine cj ?_
  refine kIf2 h (fun hb h => ?_) (fun hb h => ?_)
  obtain rfl := Option.some.inj h
  have h := q0
  simp only [Flow.go_ret, Flow.goL_ret] at h
  obtain rfl := Option.some.inj h
  exact fin
  refine wgo ?_
  repeat refine cj ?_
  refine kIf2 h (fun hb h => ?_) (fun hb h => ?_)
  obtain ⟨⟨hg8_2_0, hg8_2_1⟩, h⟩ := gd h
  obtain ⟨hg8_2l, h⟩ := gd h
  have ha0 := arr_get (fun x => Leaf.d ((fun x => D.v (Value.bool x)) x)) x3_0 (i := (rd a0 x8_0).Member) (by omega) (by omega)
  have hs0 := fun z => arr_put (fun x => Leaf.d ((fun x => D.v (Value.bool x)) x)) x3_0 (i := (rd a0 x8_0).Member) z (by omega) (by omega)
  have hu0 := fun z => arr_put2 (fun x => Leaf.d ((fun x => D.v (Value.bool x)) x)) x3_0 (i := (rd a0 x8_0).Member) z (by omega) (by omega)
  try simp (maxSteps := 2000000) only [go_sem, ↓reduceIte, reduceCtorEq, Nat.reduceLT, Nat.reduceLeDiff, Nat.reduceEqDiff, Nat.reduceMul, Nat.reduceAdd, Nat.reduceSub, Int.reduceLE, Int.reduceLT, ha0, hs0, hu0]
  repeat refine cj ?_
  refine kIf2 h (fun hb h => ?_) (fun hb h => ?_)
  obtain rfl := Option.some.inj h
  have h := q0
  simp only [Flow.go_ret, Flow.goL_ret] at h
  obtain rfl := Option.some.inj h
  (try simp (maxSteps := 2000000) only [go_sem, ↓reduceIte, reduceCtorEq, Nat.reduceLT, Nat.reduceLeDiff, Nat.reduceEqDiff, Nat.reduceMul, Nat.reduceAdd, Nat.reduceSub, Int.reduceLE, Int.reduceLT, ha0, hs0, hu0]) <;> first | rfl | ((repeat (first | refine And.intro (by first | assumption | (show chk _ _ _ = true; kernel_rfl) | (show isSl _ _ = true; kernel_rfl) | omega | (simp; done)) ?_ | rfl | omega | simp only [rowsD_append, rowsD_cons, rowsD_nil, rowsD_set, rowsD_take, rowsD_drop, rowsD_replicate])); done) | (simp only [List.map_set, rowsD_append, rowsD_cons, rowsD_nil, rowsD_set, rowsD_take, rowsD_drop, rowsD_replicate]; done) | (simp only [List.map_set, rowsD_append, rowsD_cons, rowsD_nil, rowsD_set, rowsD_take, rowsD_drop, rowsD_replicate]; rfl) | (simp; done)
  have ha3 := arr_get (fun x => Leaf.d ((fun x => D.v (Value.bool x)) x)) x3_0 (i := (rd a0 x8_0).Member) (by omega) (by omega)
  have hs3 := fun z => arr_put (fun x => Leaf.d ((fun x => D.v (Value.bool x)) x)) x3_0 (i := (rd a0 x8_0).Member) z (by omega) (by omega)
  have hu3 := fun z => arr_put2 (fun x => Leaf.d ((fun x => D.v (Value.bool x)) x)) x3_0 (i := (rd a0 x8_0).Member) z (by omega) (by omega)
  try simp (maxSteps := 2000000) only [go_sem, ↓reduceIte, reduceCtorEq, Nat.reduceLT, Nat.reduceLeDiff, Nat.reduceEqDiff, Nat.reduceMul, Nat.reduceAdd, Nat.reduceSub, Int.reduceLE, Int.reduceLT, ha0, hs0, hu0, ha3, hs3, hu3]
  repeat refine cj ?_
  refine Round.fx (k0, x3_0.set (rd a0 x8_0).Member.toNat true, IntKind.i64.wrap (x8_0 + 1)) h (Nat.lt_succ_self k0) ?_
  exact fxs
  refine wgo ?_
  repeat refine cj ?_
  refine Round.fx (k0, x3_0, IntKind.i64.wrap (x8_0 + 1)) h (Nat.lt_succ_self k0) ?_
  exact fxs
  refine wgo ?_
  repeat refine cj ?_
  refine kIf2 h (fun hb h => ?_) (fun hb h => ?_)
  obtain ⟨⟨hg8_2_0, hg8_2_1⟩, h⟩ := gd h
  obtain ⟨hg8_2l, h⟩ := gd h
  have ha0 := arr_get (fun x => Leaf.d ((fun x => D.v (Value.bool x)) x)) x3_0 (i := (rd a0 x8_0).Member) (by omega) (by omega)
  have hs0 := fun z => arr_put (fun x => Leaf.d ((fun x => D.v (Value.bool x)) x)) x3_0 (i := (rd a0 x8_0).Member) z (by omega) (by omega)
  have hu0 := fun z => arr_put2 (fun x => Leaf.d ((fun x => D.v (Value.bool x)) x)) x3_0 (i := (rd a0 x8_0).Member) z (by omega) (by omega)
  try simp (maxSteps := 2000000) only [go_sem, ↓reduceIte, reduceCtorEq, Nat.reduceLT, Nat.reduceLeDiff, Nat.reduceEqDiff, Nat.reduceMul, Nat.reduceAdd, Nat.reduceSub, Int.reduceLE, Int.reduceLT, ha0, hs0, hu0]
  repeat refine cj ?_
  refine kIf2 h (fun hb h => ?_) (fun hb h => ?_)
  obtain rfl := Option.some.inj h
  have h := q0
  simp only [Flow.go_ret, Flow.goL_ret] at h
  obtain rfl := Option.some.inj h
  (try simp (maxSteps := 2000000) only [go_sem, ↓reduceIte, reduceCtorEq, Nat.reduceLT, Nat.reduceLeDiff, Nat.reduceEqDiff, Nat.reduceMul, Nat.reduceAdd, Nat.reduceSub, Int.reduceLE, Int.reduceLT, ha0, hs0, hu0]) <;> first | rfl | ((repeat (first | refine And.intro (by first | assumption | (show chk _ _ _ = true; kernel_rfl) | (show isSl _ _ = true; kernel_rfl) | omega | (simp; done)) ?_ | rfl | omega | simp only [rowsD_append, rowsD_cons, rowsD_nil, rowsD_set, rowsD_take, rowsD_drop, rowsD_replicate])); done) | (simp only [List.map_set, rowsD_append, rowsD_cons, rowsD_nil, rowsD_set, rowsD_take, rowsD_drop, rowsD_replicate]; done) | (simp only [List.map_set, rowsD_append, rowsD_cons, rowsD_nil, rowsD_set, rowsD_take, rowsD_drop, rowsD_replicate]; rfl) | (simp; done)
  have ha3 := arr_get (fun x => Leaf.d ((fun x => D.v (Value.bool x)) x)) x3_0 (i := (rd a0 x8_0).Member) (by omega) (by omega)
  have hs3 := fun z => arr_put (fun x => Leaf.d ((fun x => D.v (Value.bool x)) x)) x3_0 (i := (rd a0 x8_0).Member) z (by omega) (by omega)
  have hu3 := fun z => arr_put2 (fun x => Leaf.d ((fun x => D.v (Value.bool x)) x)) x3_0 (i := (rd a0 x8_0).Member) z (by omega) (by omega)
  try simp (maxSteps := 2000000) only [go_sem, ↓reduceIte, reduceCtorEq, Nat.reduceLT, Nat.reduceLeDiff, Nat.reduceEqDiff, Nat.reduceMul, Nat.reduceAdd, Nat.reduceSub, Int.reduceLE, Int.reduceLT, ha0, hs0, hu0, ha3, hs3, hu3]
  repeat refine cj ?_
  refine Round.fx (k0, x3_0.set (rd a0 x8_0).Member.toNat true, IntKind.i64.wrap (x8_0 + 1)) h (Nat.lt_succ_self k0) ?_
  exact fxs
  refine wgo ?_
  repeat refine cj ?_
  refine Round.fx (k0, x3_0, IntKind.i64.wrap (x8_0 + 1)) h (Nat.lt_succ_self k0) ?_
  exact fxs
  obtain rfl := Option.some.inj h
  have h := q0
  simp only [Flow.go_ret, Flow.goL_ret] at h
  obtain rfl := Option.some.inj h
  exact fin
  obtain rfl := Option.some.inj h
  have h := q0
  simp only [Flow.go_ret, Flow.goL_ret] at h
  obtain rfl := Option.some.inj h
  exact fin
  obtain rfl := Option.some.inj h
  have h := q0
  simp only [Flow.go_ret, Flow.goL_ret] at h
  obtain rfl := Option.some.inj h
  exact fin
  refine wgo ?_
  repeat refine cj ?_
  refine kIf3 h (fun hb h => ?_) (fun hb h => ?_)
  refine wgo ?_
  repeat refine cj ?_
  refine kIf3 h (fun hb h => ?_) (fun hb h => ?_)
  refine wgo ?_
  repeat refine cj ?_
  refine kIf2 h (fun hb h => ?_) (fun hb h => ?_)
  obtain ⟨⟨hg5_45_0, hg5_45_1⟩, h⟩ := gd h
  refine wgo ?_
  repeat refine cj ?_
  refine kIf2 h (fun hb h => ?_) (fun hb h => ?_)
  obtain rfl := Option.some.inj h
  have h := q0
  simp only [Flow.go_ret, Flow.goL_ret] at h
  obtain rfl := Option.some.inj h
  exact fin
  refine wgo ?_
  repeat refine cj ?_
  refine kIf2 h (fun hb h => ?_) (fun hb h => ?_)
  obtain ⟨⟨hg8_2_0, hg8_2_1⟩, h⟩ := gd h
  obtain ⟨hg8_2l, h⟩ := gd h
  have ha0 := arr_get (fun x => Leaf.d ((fun x => D.v (Value.bool x)) x)) x3_0 (i := (rd a0 x8_0).Member) (by omega) (by omega)
  have hs0 := fun z => arr_put (fun x => Leaf.d ((fun x => D.v (Value.bool x)) x)) x3_0 (i := (rd a0 x8_0).Member) z (by omega) (by omega)
  have hu0 := fun z => arr_put2 (fun x => Leaf.d ((fun x => D.v (Value.bool x)) x)) x3_0 (i := (rd a0 x8_0).Member) z (by omega) (by omega)
  try simp (maxSteps := 2000000) only [go_sem, ↓reduceIte, reduceCtorEq, Nat.reduceLT, Nat.reduceLeDiff, Nat.reduceEqDiff, Nat.reduceMul, Nat.reduceAdd, Nat.reduceSub, Int.reduceLE, Int.reduceLT, ha0, hs0, hu0]
  repeat refine cj ?_
  refine kIf2 h (fun hb h => ?_) (fun hb h => ?_)
  obtain rfl := Option.some.inj h
  have h := q0
  simp only [Flow.go_ret, Flow.goL_ret] at h
  obtain rfl := Option.some.inj h
  (try simp (maxSteps := 2000000) only [go_sem, ↓reduceIte, reduceCtorEq, Nat.reduceLT, Nat.reduceLeDiff, Nat.reduceEqDiff, Nat.reduceMul, Nat.reduceAdd, Nat.reduceSub, Int.reduceLE, Int.reduceLT, ha0, hs0, hu0]) <;> first | rfl | ((repeat (first | refine And.intro (by first | assumption | (show chk _ _ _ = true; kernel_rfl) | (show isSl _ _ = true; kernel_rfl) | omega | (simp; done)) ?_ | rfl | omega | simp only [rowsD_append, rowsD_cons, rowsD_nil, rowsD_set, rowsD_take, rowsD_drop, rowsD_replicate])); done) | (simp only [List.map_set, rowsD_append, rowsD_cons, rowsD_nil, rowsD_set, rowsD_take, rowsD_drop, rowsD_replicate]; done) | (simp only [List.map_set, rowsD_append, rowsD_cons, rowsD_nil, rowsD_set, rowsD_take, rowsD_drop, rowsD_replicate]; rfl) | (simp; done)
  have ha3 := arr_get (fun x => Leaf.d ((fun x => D.v (Value.bool x)) x)) x3_0 (i := (rd a0 x8_0).Member) (by omega) (by omega)
  have hs3 := fun z => arr_put (fun x => Leaf.d ((fun x => D.v (Value.bool x)) x)) x3_0 (i := (rd a0 x8_0).Member) z (by omega) (by omega)
  have hu3 := fun z => arr_put2 (fun x => Leaf.d ((fun x => D.v (Value.bool x)) x)) x3_0 (i := (rd a0 x8_0).Member) z (by omega) (by omega)
  try simp (maxSteps := 2000000) only [go_sem, ↓reduceIte, reduceCtorEq, Nat.reduceLT, Nat.reduceLeDiff, Nat.reduceEqDiff, Nat.reduceMul, Nat.reduceAdd, Nat.reduceSub, Int.reduceLE, Int.reduceLT, ha0, hs0, hu0, ha3, hs3, hu3]
  repeat refine cj ?_
  refine Round.fx (k0, x3_0.set (rd a0 x8_0).Member.toNat true, IntKind.i64.wrap (x8_0 + 1)) h (Nat.lt_succ_self k0) ?_
  exact fxs
  refine wgo ?_
  repeat refine cj ?_
  refine Round.fx (k0, x3_0, IntKind.i64.wrap (x8_0 + 1)) h (Nat.lt_succ_self k0) ?_
  exact fxs
  refine wgo ?_
  repeat refine cj ?_
  refine kIf2 h (fun hb h => ?_) (fun hb h => ?_)
  obtain ⟨⟨hg8_2_0, hg8_2_1⟩, h⟩ := gd h
  obtain ⟨hg8_2l, h⟩ := gd h
  have ha0 := arr_get (fun x => Leaf.d ((fun x => D.v (Value.bool x)) x)) x3_0 (i := (rd a0 x8_0).Member) (by omega) (by omega)
  have hs0 := fun z => arr_put (fun x => Leaf.d ((fun x => D.v (Value.bool x)) x)) x3_0 (i := (rd a0 x8_0).Member) z (by omega) (by omega)
  have hu0 := fun z => arr_put2 (fun x => Leaf.d ((fun x => D.v (Value.bool x)) x)) x3_0 (i := (rd a0 x8_0).Member) z (by omega) (by omega)
  try simp (maxSteps := 2000000) only [go_sem, ↓reduceIte, reduceCtorEq, Nat.reduceLT, Nat.reduceLeDiff, Nat.reduceEqDiff, Nat.reduceMul, Nat.reduceAdd, Nat.reduceSub, Int.reduceLE, Int.reduceLT, ha0, hs0, hu0]
  repeat refine cj ?_
  refine kIf2 h (fun hb h => ?_) (fun hb h => ?_)
  obtain rfl := Option.some.inj h
  have h := q0
  simp only [Flow.go_ret, Flow.goL_ret] at h
  obtain rfl := Option.some.inj h
  (try simp (maxSteps := 2000000) only [go_sem, ↓reduceIte, reduceCtorEq, Nat.reduceLT, Nat.reduceLeDiff, Nat.reduceEqDiff, Nat.reduceMul, Nat.reduceAdd, Nat.reduceSub, Int.reduceLE, Int.reduceLT, ha0, hs0, hu0]) <;> first | rfl | ((repeat (first | refine And.intro (by first | assumption | (show chk _ _ _ = true; kernel_rfl) | (show isSl _ _ = true; kernel_rfl) | omega | (simp; done)) ?_ | rfl | omega | simp only [rowsD_append, rowsD_cons, rowsD_nil, rowsD_set, rowsD_take, rowsD_drop, rowsD_replicate])); done) | (simp only [List.map_set, rowsD_append, rowsD_cons, rowsD_nil, rowsD_set, rowsD_take, rowsD_drop, rowsD_replicate]; done) | (simp only [List.map_set, rowsD_append, rowsD_cons, rowsD_nil, rowsD_set, rowsD_take, rowsD_drop, rowsD_replicate]; rfl) | (simp; done)
  have ha3 := arr_get (fun x => Leaf.d ((fun x => D.v (Value.bool x)) x)) x3_0 (i := (rd a0 x8_0).Member) (by omega) (by omega)
  have hs3 := fun z => arr_put (fun x => Leaf.d ((fun x => D.v (Value.bool x)) x)) x3_0 (i := (rd a0 x8_0).Member) z (by omega) (by omega)
  have hu3 := fun z => arr_put2 (fun x => Leaf.d ((fun x => D.v (Value.bool x)) x)) x3_0 (i := (rd a0 x8_0).Member) z (by omega) (by omega)
  try simp (maxSteps := 2000000) only [go_sem, ↓reduceIte, reduceCtorEq, Nat.reduceLT, Nat.reduceLeDiff, Nat.reduceEqDiff, Nat.reduceMul, Nat.reduceAdd, Nat.reduceSub, Int.reduceLE, Int.reduceLT, ha0, hs0, hu0, ha3, hs3, hu3]
  repeat refine cj ?_
  refine Round.fx (k0, x3_0.set (rd a0 x8_0).Member.toNat true, IntKind.i64.wrap (x8_0 + 1)) h (Nat.lt_succ_self k0) ?_
  exact fxs
  refine wgo ?_
  repeat refine cj ?_
  refine Round.fx (k0, x3_0, IntKind.i64.wrap (x8_0 + 1)) h (Nat.lt_succ_self k0) ?_
  exact fxs
  obtain rfl := Option.some.inj h
  have h := q0
  simp only [Flow.go_ret, Flow.goL_ret] at h
  obtain rfl := Option.some.inj h
  exact fin
  obtain rfl := Option.some.inj h
  have h := q0
  simp only [Flow.go_ret, Flow.goL_ret] at h
  obtain rfl := Option.some.inj h
  exact fin
  obtain rfl := Option.some.inj h
  have h := q0
  simp only [Flow.go_ret, Flow.goL_ret] at h
  obtain rfl := Option.some.inj h
  exact fin
  obtain rfl := Option.some.inj h
  have h := q0
  simp only [Flow.go_ret, Flow.goL_ret] at h
  obtain rfl := Option.some.inj h
  exact fin
  obtain rfl := Option.some.inj h
  have h := q0
  simp only [Flow.go_ret, Flow.goL_ret] at h
  obtain rfl := Option.some.inj h
  exact fin
  obtain rfl := Option.some.inj h
  have h := q0
  simp only [Flow.go_ret, Flow.goL_ret] at h
  obtain rfl := Option.some.inj h
  exact fin
  obtain rfl := Option.some.inj h
  have h := q0
  simp only [Flow.go_out, Flow.goL_out] at h
  try dsimp only at h
  obtain rfl := Option.some.inj h
  exact fin
end Go.Ax

/- The walk of roll_Find, printed by gen.py. -/
set_option linter.unusedSimpArgs false
set_option linter.unusedVariables false
namespace Go.Ax
open Go Go.Proofs
set_option maxRecDepth 100000
set_option maxHeartbeats 4000000
theorem roll_Find.spec {a0 : List api_Acc} {a1 : Int} {r : api_Acc × Bool} (h : roll_Find.f a0 a1 = some r) : FSpec Try.prog 54 [(false, [.l (rowsD api_Acc.D a0)]), (false, [.v (.int .i64 a1)])] [.agg (api_Acc.D r.1), .one (.d (.v (.bool r.2)))] := by
  unfold roll_Find.f at h
  refine fspec_data mixed Try.func54 rfl (by decide) [0, 1, 4, 5, 7, 12, 13, 14] (rs := [.cell 4 92, .tmp 5]) rfl (by decide) (n := 25) rfl (by simp) ?_
  refine wgo ?_
  repeat refine cj ?_
  obtain ⟨y1_1, hy1_1, h⟩ := bd h
  refine aCall_of (roll_Accs.spec hy1_1) ?_
  refine wgo ?_
  repeat refine cj ?_
  refine kIf2 h (fun hb h => ?_) (fun hb h => ?_)
  obtain rfl := Option.some.inj h
  exact fin
  refine wgo ?_
  repeat refine cj ?_
  obtain ⟨f1, h1, q1⟩ := bd h
  rw [aCode_loop]
  refine aLoop_fx (α := Nat × Int) (fun p => (⟨25, [], [(0, .one (.l (rowsD api_Acc.D a0))), (1, .one (.v (.int .i64 a1))), (4, .box [.d (.v (.int .i64 0)), .d (.v (.int .i64 0)), .d (.v (.int .i64 0)), .d (.v (.int .i64 0))]), (5, .one (.v (.bool false))), (7, .none), (12, .one (.l (rowsD api_Acc.D a0))), (13, .one (.v (.int .i64 (a0.length : Int)))), (14, .one (.v (.int .i64 p.2)))]⟩ : S)) (fun p => roll_Find.l0 a0 a1 p.1 p.2 = some f1) (fun p => p.1) (FUEL, 0) h1 ?_ ?_
  exact fxs
  rintro ⟨k1, x14_1⟩ h
  simp only at h
  obtain _ | k1 := k1
  exact absurd h (by simp [roll_Find.l0])
  rw [roll_Find.l0] at h
  refine wgo ?_
  repeat refine cj ?_
  refine kIf2 h (fun hb h => ?_) (fun hb h => ?_)
  obtain ⟨⟨hg5_0_0, hg5_0_1⟩, h⟩ := gd h
  refine wgo ?_
  repeat refine cj ?_
  refine kIf2 h (fun hb h => ?_) (fun hb h => ?_)
  obtain rfl := Option.some.inj h
  have h := q1
  simp only [Flow.go_ret, Flow.goL_ret] at h
  obtain rfl := Option.some.inj h
  exact fin
  refine wgo ?_
  repeat refine cj ?_
  refine Round.fx (k1, IntKind.i64.wrap (x14_1 + 1)) h (Nat.lt_succ_self k1) ?_
  exact fxs
  obtain rfl := Option.some.inj h
  have h := q1
  simp only [Flow.go_out, Flow.goL_out] at h
  try dsimp only at h
  obtain rfl := Option.some.inj h
  exact fin
end Go.Ax

/- The walk of book_Acc, printed by gen.py. -/
set_option linter.unusedSimpArgs false
set_option linter.unusedVariables false
namespace Go.Ax
open Go Go.Proofs
set_option maxRecDepth 100000
set_option maxHeartbeats 4000000
theorem book_Acc.spec {a0 : api_Book} {a1 : Int} {r : Bool} (h : book_Acc.f a0 a1 = some r) : FSpec Try.prog 76 [(true, api_Book.D a0), (false, [.v (.int .i64 a1)])] [.one (.d (.v (.bool r)))] := by
  unfold book_Acc.f at h
  refine fspec_data mixed Try.func76 rfl (by decide) [0, 1, 2, 4, 5, 6] (rs := [.tmp 4]) rfl (by decide) (n := 15) rfl (by simp) ?_
  refine wgo ?_
  repeat refine cj ?_
  obtain ⟨y1_3, hy1_3, h⟩ := bd h
  refine aCall_of (roll_Find.spec hy1_3) ?_
  obtain rfl := Option.some.inj h
  exact fin
end Go.Ax
