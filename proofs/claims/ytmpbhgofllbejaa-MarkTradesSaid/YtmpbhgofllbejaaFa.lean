/- The facts about the types of the program, out of facts.py. -/
import Derived.Test.YtmpbhgofllbejaaProg
import Derived.KernelRfl
import Derived.Test.YtmpbhgofllbejaaLibB
import Derived.Test.YtmpbhgofllbejaaEqs
set_option linter.unusedVariables false
set_option linter.unusedSimpArgs false
set_option maxRecDepth 100000
namespace Go.Ax
open Go Go.Proofs
@[go_sem] theorem und_2 : Try.prog.underlying 2 = some (.int .i64) := by kernel_rfl
@[go_sem] theorem info_2 : (Try.prog.info? 2).isSome = true := by kernel_rfl
@[go_sem] theorem cells_2 : Try.prog.cellsOf 2 = 1 := by kernel_rfl
@[go_sem] theorem agg_2 : isAggT Try.prog 2 = false := by kernel_rfl
@[go_sem] theorem flat_2 : flatTy Try.prog 2 = true := by kernel_rfl
@[go_sem] theorem zeroT_2 : zeroT Try.prog 2 = some [.d (.v (.int .i64 0))] := by kernel_rfl
@[go_sem] theorem zeroD_2 : zeroD Try.prog 2 = some [.v (.int .i64 0)] := by kernel_rfl
@[go_sem] theorem zrow_2 : zrow Try.prog 2 = [.v (.int .i64 0)] := by kernel_rfl
@[go_sem] theorem und_3 : Try.prog.underlying 3 = some (.int .i64) := by kernel_rfl
@[go_sem] theorem info_3 : (Try.prog.info? 3).isSome = true := by kernel_rfl
@[go_sem] theorem cells_3 : Try.prog.cellsOf 3 = 1 := by kernel_rfl
@[go_sem] theorem agg_3 : isAggT Try.prog 3 = false := by kernel_rfl
@[go_sem] theorem flat_3 : flatTy Try.prog 3 = true := by kernel_rfl
@[go_sem] theorem zeroT_3 : zeroT Try.prog 3 = some [.d (.v (.int .i64 0))] := by kernel_rfl
@[go_sem] theorem zeroD_3 : zeroD Try.prog 3 = some [.v (.int .i64 0)] := by kernel_rfl
@[go_sem] theorem zrow_3 : zrow Try.prog 3 = [.v (.int .i64 0)] := by kernel_rfl
@[go_sem] theorem und_4 : Try.prog.underlying 4 = some (.bool) := by kernel_rfl
@[go_sem] theorem info_4 : (Try.prog.info? 4).isSome = true := by kernel_rfl
@[go_sem] theorem cells_4 : Try.prog.cellsOf 4 = 1 := by kernel_rfl
@[go_sem] theorem agg_4 : isAggT Try.prog 4 = false := by kernel_rfl
@[go_sem] theorem flat_4 : flatTy Try.prog 4 = true := by kernel_rfl
@[go_sem] theorem zeroT_4 : zeroT Try.prog 4 = some [.d (.v (.bool false))] := by kernel_rfl
@[go_sem] theorem zeroD_4 : zeroD Try.prog 4 = some [.v (.bool false)] := by kernel_rfl
@[go_sem] theorem zrow_4 : zrow Try.prog 4 = [.v (.bool false)] := by kernel_rfl
@[go_sem] theorem und_12 : Try.prog.underlying 12 = some (.int .u64) := by kernel_rfl
@[go_sem] theorem info_12 : (Try.prog.info? 12).isSome = true := by kernel_rfl
@[go_sem] theorem cells_12 : Try.prog.cellsOf 12 = 1 := by kernel_rfl
@[go_sem] theorem agg_12 : isAggT Try.prog 12 = false := by kernel_rfl
@[go_sem] theorem flat_12 : flatTy Try.prog 12 = true := by kernel_rfl
@[go_sem] theorem zeroT_12 : zeroT Try.prog 12 = some [.d (.v (.int .u64 0))] := by kernel_rfl
@[go_sem] theorem zeroD_12 : zeroD Try.prog 12 = some [.v (.int .u64 0)] := by kernel_rfl
@[go_sem] theorem zrow_12 : zrow Try.prog 12 = [.v (.int .u64 0)] := by kernel_rfl
@[go_sem] theorem und_22 : Try.prog.underlying 22 = some (.slice 99) := by kernel_rfl
@[go_sem] theorem info_22 : (Try.prog.info? 22).isSome = true := by kernel_rfl
@[go_sem] theorem cells_22 : Try.prog.cellsOf 22 = 1 := by kernel_rfl
@[go_sem] theorem agg_22 : isAggT Try.prog 22 = false := by kernel_rfl
@[go_sem] theorem flat_22 : flatTy Try.prog 22 = false := by kernel_rfl
@[go_sem] theorem zeroT_22 : zeroT Try.prog 22 = some [.own 0 []] := by kernel_rfl
@[go_sem] theorem zeroD_22 : zeroD Try.prog 22 = some [.l []] := by kernel_rfl
@[go_sem] theorem zrow_22 : zrow Try.prog 22 = [.l []] := by kernel_rfl
@[go_sem] theorem stride_22 : strideT Try.prog 22 = 3 := by kernel_rfl
@[go_sem] theorem elem_22 : elemT Try.prog 22 = some (99, 3, 24, [.v (.int .i64 0), .v (.int .i64 0), .v (.int .i64 0)]) := by kernel_rfl
@[go_sem] theorem und_24 : Try.prog.underlying 24 = some (.slice 63) := by kernel_rfl
@[go_sem] theorem info_24 : (Try.prog.info? 24).isSome = true := by kernel_rfl
@[go_sem] theorem cells_24 : Try.prog.cellsOf 24 = 1 := by kernel_rfl
@[go_sem] theorem agg_24 : isAggT Try.prog 24 = false := by kernel_rfl
@[go_sem] theorem flat_24 : flatTy Try.prog 24 = false := by kernel_rfl
@[go_sem] theorem zeroT_24 : zeroT Try.prog 24 = some [.own 0 []] := by kernel_rfl
@[go_sem] theorem zeroD_24 : zeroD Try.prog 24 = some [.l []] := by kernel_rfl
@[go_sem] theorem zrow_24 : zrow Try.prog 24 = [.l []] := by kernel_rfl
@[go_sem] theorem stride_24 : strideT Try.prog 24 = 4 := by kernel_rfl
@[go_sem] theorem elem_24 : elemT Try.prog 24 = some (63, 4, 32, [.v (.int .i64 0), .v (.int .i64 0), .v (.int .i64 0), .v (.int .u64 0)]) := by kernel_rfl
@[go_sem] theorem und_25 : Try.prog.underlying 25 = some (.int .i64) := by kernel_rfl
@[go_sem] theorem info_25 : (Try.prog.info? 25).isSome = true := by kernel_rfl
@[go_sem] theorem cells_25 : Try.prog.cellsOf 25 = 1 := by kernel_rfl
@[go_sem] theorem agg_25 : isAggT Try.prog 25 = false := by kernel_rfl
@[go_sem] theorem flat_25 : flatTy Try.prog 25 = true := by kernel_rfl
@[go_sem] theorem zeroT_25 : zeroT Try.prog 25 = some [.d (.v (.int .i64 0))] := by kernel_rfl
@[go_sem] theorem zeroD_25 : zeroD Try.prog 25 = some [.v (.int .i64 0)] := by kernel_rfl
@[go_sem] theorem zrow_25 : zrow Try.prog 25 = [.v (.int .i64 0)] := by kernel_rfl
@[go_sem] theorem und_28 : Try.prog.underlying 28 = some (.slice 112) := by kernel_rfl
@[go_sem] theorem info_28 : (Try.prog.info? 28).isSome = true := by kernel_rfl
@[go_sem] theorem cells_28 : Try.prog.cellsOf 28 = 1 := by kernel_rfl
@[go_sem] theorem agg_28 : isAggT Try.prog 28 = false := by kernel_rfl
@[go_sem] theorem flat_28 : flatTy Try.prog 28 = false := by kernel_rfl
@[go_sem] theorem zeroT_28 : zeroT Try.prog 28 = some [.own 0 []] := by kernel_rfl
@[go_sem] theorem zeroD_28 : zeroD Try.prog 28 = some [.l []] := by kernel_rfl
@[go_sem] theorem zrow_28 : zrow Try.prog 28 = [.l []] := by kernel_rfl
@[go_sem] theorem stride_28 : strideT Try.prog 28 = 4 := by kernel_rfl
@[go_sem] theorem elem_28 : elemT Try.prog 28 = some (112, 4, 48, [.v (.int .i64 0), .v (.int .i64 0), .v (.bool false), .l []]) := by kernel_rfl
@[go_sem] theorem und_33 : Try.prog.underlying 33 = some (.slice 102) := by kernel_rfl
@[go_sem] theorem info_33 : (Try.prog.info? 33).isSome = true := by kernel_rfl
@[go_sem] theorem cells_33 : Try.prog.cellsOf 33 = 1 := by kernel_rfl
@[go_sem] theorem agg_33 : isAggT Try.prog 33 = false := by kernel_rfl
@[go_sem] theorem flat_33 : flatTy Try.prog 33 = false := by kernel_rfl
@[go_sem] theorem zeroT_33 : zeroT Try.prog 33 = some [.own 0 []] := by kernel_rfl
@[go_sem] theorem zeroD_33 : zeroD Try.prog 33 = some [.l []] := by kernel_rfl
@[go_sem] theorem zrow_33 : zrow Try.prog 33 = [.l []] := by kernel_rfl
@[go_sem] theorem stride_33 : strideT Try.prog 33 = 2 := by kernel_rfl
@[go_sem] theorem elem_33 : elemT Try.prog 33 = some (102, 2, 16, [.v (.int .i64 0), .v (.int .i64 0)]) := by kernel_rfl
@[go_sem] theorem und_42 : Try.prog.underlying 42 = some (.struct #[⟨"Buy", 3, 0, false, "", "", 0⟩, ⟨"Sell", 3, 1, false, "", "", 8⟩, ⟨"Inst", 3, 2, false, "", "", 16⟩, ⟨"Q", 2, 3, false, "", "", 24⟩, ⟨"P", 2, 4, false, "", "", 32⟩]) := by kernel_rfl
@[go_sem] theorem info_42 : (Try.prog.info? 42).isSome = true := by kernel_rfl
@[go_sem] theorem cells_42 : Try.prog.cellsOf 42 = 5 := by kernel_rfl
@[go_sem] theorem agg_42 : isAggT Try.prog 42 = true := by kernel_rfl
@[go_sem] theorem flat_42 : flatTy Try.prog 42 = true := by kernel_rfl
@[go_sem] theorem zeroT_42 : zeroT Try.prog 42 = some [.d (.v (.int .i64 0)), .d (.v (.int .i64 0)), .d (.v (.int .i64 0)), .d (.v (.int .i64 0)), .d (.v (.int .i64 0))] := by kernel_rfl
@[go_sem] theorem zeroD_42 : zeroD Try.prog 42 = some [.v (.int .i64 0), .v (.int .i64 0), .v (.int .i64 0), .v (.int .i64 0), .v (.int .i64 0)] := by kernel_rfl
@[go_sem] theorem zrow_42 : zrow Try.prog 42 = [.v (.int .i64 0), .v (.int .i64 0), .v (.int .i64 0), .v (.int .i64 0), .v (.int .i64 0)] := by kernel_rfl
@[go_sem] theorem eq_42 (op : BinOp) (x0 y0 : Int) (x1 y1 : Int) (x2 y2 : Int) (x3 y3 : Int) (x4 y4 : Int) (K : Go.Ax.T → Prop) : eqAgg Try.prog op 42 [.v (.int .i64 x0), .v (.int .i64 x1), .v (.int .i64 x2), .v (.int .i64 x3), .v (.int .i64 x4)] [.v (.int .i64 y0), .v (.int .i64 y1), .v (.int .i64 y2), .v (.int .i64 y3), .v (.int .i64 y4)] K = match op with | .eql => K (.one (.v (.bool (x0 == y0 && (x1 == y1 && (x2 == y2 && (x3 == y3 && x4 == y4))))))) | .neq => K (.one (.v (.bool (!(x0 == y0 && (x1 == y1 && (x2 == y2 && (x3 == y3 && x4 == y4)))))))) | _ => False :=
  eqAgg_deep und_42 (by kernel_rfl) (ks := [.int .i64, .int .i64, .int .i64, .int .i64, .int .i64]) (by kernel_rfl) (xs := [.int .i64 x0, .int .i64 x1, .int .i64 x2, .int .i64 x3, .int .i64 x4]) (ys := [.int .i64 y0, .int .i64 y1, .int .i64 y2, .int .i64 y3, .int .i64 y4]) (by kernel_rfl) (by kernel_rfl) op K
@[go_sem] theorem places_42 : placesT Try.prog 42 = some [(0, 1), (1, 1), (2, 1), (3, 1), (4, 1)] := by kernel_rfl
@[go_sem] theorem und_43 : Try.prog.underlying 43 = some (.struct #[⟨"Buy", 3, 0, false, "", "", 0⟩, ⟨"Sell", 3, 1, false, "", "", 8⟩, ⟨"Inst", 3, 2, false, "", "", 16⟩, ⟨"Q", 2, 3, false, "", "", 24⟩, ⟨"P", 2, 4, false, "", "", 32⟩]) := by kernel_rfl
@[go_sem] theorem info_43 : (Try.prog.info? 43).isSome = true := by kernel_rfl
@[go_sem] theorem cells_43 : Try.prog.cellsOf 43 = 5 := by kernel_rfl
@[go_sem] theorem agg_43 : isAggT Try.prog 43 = true := by kernel_rfl
@[go_sem] theorem flat_43 : flatTy Try.prog 43 = true := by kernel_rfl
@[go_sem] theorem zeroT_43 : zeroT Try.prog 43 = some [.d (.v (.int .i64 0)), .d (.v (.int .i64 0)), .d (.v (.int .i64 0)), .d (.v (.int .i64 0)), .d (.v (.int .i64 0))] := by kernel_rfl
@[go_sem] theorem zeroD_43 : zeroD Try.prog 43 = some [.v (.int .i64 0), .v (.int .i64 0), .v (.int .i64 0), .v (.int .i64 0), .v (.int .i64 0)] := by kernel_rfl
@[go_sem] theorem zrow_43 : zrow Try.prog 43 = [.v (.int .i64 0), .v (.int .i64 0), .v (.int .i64 0), .v (.int .i64 0), .v (.int .i64 0)] := by kernel_rfl
@[go_sem] theorem eq_43 (op : BinOp) (x0 y0 : Int) (x1 y1 : Int) (x2 y2 : Int) (x3 y3 : Int) (x4 y4 : Int) (K : Go.Ax.T → Prop) : eqAgg Try.prog op 43 [.v (.int .i64 x0), .v (.int .i64 x1), .v (.int .i64 x2), .v (.int .i64 x3), .v (.int .i64 x4)] [.v (.int .i64 y0), .v (.int .i64 y1), .v (.int .i64 y2), .v (.int .i64 y3), .v (.int .i64 y4)] K = match op with | .eql => K (.one (.v (.bool (x0 == y0 && (x1 == y1 && (x2 == y2 && (x3 == y3 && x4 == y4))))))) | .neq => K (.one (.v (.bool (!(x0 == y0 && (x1 == y1 && (x2 == y2 && (x3 == y3 && x4 == y4)))))))) | _ => False :=
  eqAgg_deep und_43 (by kernel_rfl) (ks := [.int .i64, .int .i64, .int .i64, .int .i64, .int .i64]) (by kernel_rfl) (xs := [.int .i64 x0, .int .i64 x1, .int .i64 x2, .int .i64 x3, .int .i64 x4]) (ys := [.int .i64 y0, .int .i64 y1, .int .i64 y2, .int .i64 y3, .int .i64 y4]) (by kernel_rfl) (by kernel_rfl) op K
@[go_sem] theorem places_43 : placesT Try.prog 43 = some [(0, 1), (1, 1), (2, 1), (3, 1), (4, 1)] := by kernel_rfl
@[go_sem] theorem und_44 : Try.prog.underlying 44 = some (.slice 57) := by kernel_rfl
@[go_sem] theorem info_44 : (Try.prog.info? 44).isSome = true := by kernel_rfl
@[go_sem] theorem cells_44 : Try.prog.cellsOf 44 = 1 := by kernel_rfl
@[go_sem] theorem agg_44 : isAggT Try.prog 44 = false := by kernel_rfl
@[go_sem] theorem flat_44 : flatTy Try.prog 44 = false := by kernel_rfl
@[go_sem] theorem zeroT_44 : zeroT Try.prog 44 = some [.own 0 []] := by kernel_rfl
@[go_sem] theorem zeroD_44 : zeroD Try.prog 44 = some [.l []] := by kernel_rfl
@[go_sem] theorem zrow_44 : zrow Try.prog 44 = [.l []] := by kernel_rfl
@[go_sem] theorem stride_44 : strideT Try.prog 44 = 1 := by kernel_rfl
@[go_sem] theorem elem_44 : elemT Try.prog 44 = some (57, 1, 8, [.v (.int .u64 0)]) := by kernel_rfl
@[go_sem] theorem und_47 : Try.prog.underlying 47 = some (.struct #[⟨"Kind", 3, 0, false, "", "", 0⟩, ⟨"Member", 3, 1, false, "", "", 8⟩, ⟨"Acc", 3, 2, false, "", "", 16⟩, ⟨"Inst", 3, 3, false, "", "", 24⟩, ⟨"Side", 3, 4, false, "", "", 32⟩, ⟨"Id", 2, 5, false, "", "", 40⟩, ⟨"Q", 2, 6, false, "", "", 48⟩, ⟨"P", 2, 7, false, "", "", 56⟩]) := by kernel_rfl
@[go_sem] theorem info_47 : (Try.prog.info? 47).isSome = true := by kernel_rfl
@[go_sem] theorem cells_47 : Try.prog.cellsOf 47 = 8 := by kernel_rfl
@[go_sem] theorem agg_47 : isAggT Try.prog 47 = true := by kernel_rfl
@[go_sem] theorem flat_47 : flatTy Try.prog 47 = true := by kernel_rfl
@[go_sem] theorem zeroT_47 : zeroT Try.prog 47 = some [.d (.v (.int .i64 0)), .d (.v (.int .i64 0)), .d (.v (.int .i64 0)), .d (.v (.int .i64 0)), .d (.v (.int .i64 0)), .d (.v (.int .i64 0)), .d (.v (.int .i64 0)), .d (.v (.int .i64 0))] := by kernel_rfl
@[go_sem] theorem zeroD_47 : zeroD Try.prog 47 = some [.v (.int .i64 0), .v (.int .i64 0), .v (.int .i64 0), .v (.int .i64 0), .v (.int .i64 0), .v (.int .i64 0), .v (.int .i64 0), .v (.int .i64 0)] := by kernel_rfl
@[go_sem] theorem zrow_47 : zrow Try.prog 47 = [.v (.int .i64 0), .v (.int .i64 0), .v (.int .i64 0), .v (.int .i64 0), .v (.int .i64 0), .v (.int .i64 0), .v (.int .i64 0), .v (.int .i64 0)] := by kernel_rfl
@[go_sem] theorem eq_47 (op : BinOp) (x0 y0 : Int) (x1 y1 : Int) (x2 y2 : Int) (x3 y3 : Int) (x4 y4 : Int) (x5 y5 : Int) (x6 y6 : Int) (x7 y7 : Int) (K : Go.Ax.T → Prop) : eqAgg Try.prog op 47 [.v (.int .i64 x0), .v (.int .i64 x1), .v (.int .i64 x2), .v (.int .i64 x3), .v (.int .i64 x4), .v (.int .i64 x5), .v (.int .i64 x6), .v (.int .i64 x7)] [.v (.int .i64 y0), .v (.int .i64 y1), .v (.int .i64 y2), .v (.int .i64 y3), .v (.int .i64 y4), .v (.int .i64 y5), .v (.int .i64 y6), .v (.int .i64 y7)] K = match op with | .eql => K (.one (.v (.bool (x0 == y0 && (x1 == y1 && (x2 == y2 && (x3 == y3 && (x4 == y4 && (x5 == y5 && (x6 == y6 && x7 == y7)))))))))) | .neq => K (.one (.v (.bool (!(x0 == y0 && (x1 == y1 && (x2 == y2 && (x3 == y3 && (x4 == y4 && (x5 == y5 && (x6 == y6 && x7 == y7))))))))))) | _ => False :=
  eqAgg_deep und_47 (by kernel_rfl) (ks := [.int .i64, .int .i64, .int .i64, .int .i64, .int .i64, .int .i64, .int .i64, .int .i64]) (by kernel_rfl) (xs := [.int .i64 x0, .int .i64 x1, .int .i64 x2, .int .i64 x3, .int .i64 x4, .int .i64 x5, .int .i64 x6, .int .i64 x7]) (ys := [.int .i64 y0, .int .i64 y1, .int .i64 y2, .int .i64 y3, .int .i64 y4, .int .i64 y5, .int .i64 y6, .int .i64 y7]) (by kernel_rfl) (by kernel_rfl) op K
@[go_sem] theorem places_47 : placesT Try.prog 47 = some [(0, 1), (1, 1), (2, 1), (3, 1), (4, 1), (5, 1), (6, 1), (7, 1)] := by kernel_rfl
@[go_sem] theorem und_48 : Try.prog.underlying 48 = some (.struct #[⟨"Kind", 3, 0, false, "", "", 0⟩, ⟨"Member", 3, 1, false, "", "", 8⟩, ⟨"Acc", 3, 2, false, "", "", 16⟩, ⟨"Inst", 3, 3, false, "", "", 24⟩, ⟨"Side", 3, 4, false, "", "", 32⟩, ⟨"Id", 2, 5, false, "", "", 40⟩, ⟨"Q", 2, 6, false, "", "", 48⟩, ⟨"P", 2, 7, false, "", "", 56⟩]) := by kernel_rfl
@[go_sem] theorem info_48 : (Try.prog.info? 48).isSome = true := by kernel_rfl
@[go_sem] theorem cells_48 : Try.prog.cellsOf 48 = 8 := by kernel_rfl
@[go_sem] theorem agg_48 : isAggT Try.prog 48 = true := by kernel_rfl
@[go_sem] theorem flat_48 : flatTy Try.prog 48 = true := by kernel_rfl
@[go_sem] theorem zeroT_48 : zeroT Try.prog 48 = some [.d (.v (.int .i64 0)), .d (.v (.int .i64 0)), .d (.v (.int .i64 0)), .d (.v (.int .i64 0)), .d (.v (.int .i64 0)), .d (.v (.int .i64 0)), .d (.v (.int .i64 0)), .d (.v (.int .i64 0))] := by kernel_rfl
@[go_sem] theorem zeroD_48 : zeroD Try.prog 48 = some [.v (.int .i64 0), .v (.int .i64 0), .v (.int .i64 0), .v (.int .i64 0), .v (.int .i64 0), .v (.int .i64 0), .v (.int .i64 0), .v (.int .i64 0)] := by kernel_rfl
@[go_sem] theorem zrow_48 : zrow Try.prog 48 = [.v (.int .i64 0), .v (.int .i64 0), .v (.int .i64 0), .v (.int .i64 0), .v (.int .i64 0), .v (.int .i64 0), .v (.int .i64 0), .v (.int .i64 0)] := by kernel_rfl
@[go_sem] theorem eq_48 (op : BinOp) (x0 y0 : Int) (x1 y1 : Int) (x2 y2 : Int) (x3 y3 : Int) (x4 y4 : Int) (x5 y5 : Int) (x6 y6 : Int) (x7 y7 : Int) (K : Go.Ax.T → Prop) : eqAgg Try.prog op 48 [.v (.int .i64 x0), .v (.int .i64 x1), .v (.int .i64 x2), .v (.int .i64 x3), .v (.int .i64 x4), .v (.int .i64 x5), .v (.int .i64 x6), .v (.int .i64 x7)] [.v (.int .i64 y0), .v (.int .i64 y1), .v (.int .i64 y2), .v (.int .i64 y3), .v (.int .i64 y4), .v (.int .i64 y5), .v (.int .i64 y6), .v (.int .i64 y7)] K = match op with | .eql => K (.one (.v (.bool (x0 == y0 && (x1 == y1 && (x2 == y2 && (x3 == y3 && (x4 == y4 && (x5 == y5 && (x6 == y6 && x7 == y7)))))))))) | .neq => K (.one (.v (.bool (!(x0 == y0 && (x1 == y1 && (x2 == y2 && (x3 == y3 && (x4 == y4 && (x5 == y5 && (x6 == y6 && x7 == y7))))))))))) | _ => False :=
  eqAgg_deep und_48 (by kernel_rfl) (ks := [.int .i64, .int .i64, .int .i64, .int .i64, .int .i64, .int .i64, .int .i64, .int .i64]) (by kernel_rfl) (xs := [.int .i64 x0, .int .i64 x1, .int .i64 x2, .int .i64 x3, .int .i64 x4, .int .i64 x5, .int .i64 x6, .int .i64 x7]) (ys := [.int .i64 y0, .int .i64 y1, .int .i64 y2, .int .i64 y3, .int .i64 y4, .int .i64 y5, .int .i64 y6, .int .i64 y7]) (by kernel_rfl) (by kernel_rfl) op K
@[go_sem] theorem places_48 : placesT Try.prog 48 = some [(0, 1), (1, 1), (2, 1), (3, 1), (4, 1), (5, 1), (6, 1), (7, 1)] := by kernel_rfl
@[go_sem] theorem und_50 : Try.prog.underlying 50 = some (.slice 125) := by kernel_rfl
@[go_sem] theorem info_50 : (Try.prog.info? 50).isSome = true := by kernel_rfl
@[go_sem] theorem cells_50 : Try.prog.cellsOf 50 = 1 := by kernel_rfl
@[go_sem] theorem agg_50 : isAggT Try.prog 50 = false := by kernel_rfl
@[go_sem] theorem flat_50 : flatTy Try.prog 50 = false := by kernel_rfl
@[go_sem] theorem zeroT_50 : zeroT Try.prog 50 = some [.own 0 []] := by kernel_rfl
@[go_sem] theorem zeroD_50 : zeroD Try.prog 50 = some [.l []] := by kernel_rfl
@[go_sem] theorem zrow_50 : zrow Try.prog 50 = [.l []] := by kernel_rfl
@[go_sem] theorem stride_50 : strideT Try.prog 50 = 4 := by kernel_rfl
@[go_sem] theorem elem_50 : elemT Try.prog 50 = some (125, 4, 32, [.v (.int .i64 0), .v (.int .i64 0), .v (.int .i64 0), .v (.int .i64 0)]) := by kernel_rfl
@[go_sem] theorem und_51 : Try.prog.underlying 51 = some (.struct #[⟨"Insts", 50, 0, false, "", "", 0⟩, ⟨"Skin", 2, 1, false, "", "", 24⟩, ⟨"Times", 3, 2, false, "", "", 32⟩, ⟨"Port", 2, 3, false, "", "", 40⟩, ⟨"Bid", 2, 4, false, "", "", 48⟩, ⟨"LotSize", 2, 5, false, "", "", 56⟩, ⟨"HedgeMin", 2, 6, false, "", "", 64⟩]) := by kernel_rfl
@[go_sem] theorem info_51 : (Try.prog.info? 51).isSome = true := by kernel_rfl
@[go_sem] theorem cells_51 : Try.prog.cellsOf 51 = 7 := by kernel_rfl
@[go_sem] theorem agg_51 : isAggT Try.prog 51 = true := by kernel_rfl
@[go_sem] theorem flat_51 : flatTy Try.prog 51 = false := by kernel_rfl
@[go_sem] theorem zeroT_51 : zeroT Try.prog 51 = some [.own 0 [], .d (.v (.int .i64 0)), .d (.v (.int .i64 0)), .d (.v (.int .i64 0)), .d (.v (.int .i64 0)), .d (.v (.int .i64 0)), .d (.v (.int .i64 0))] := by kernel_rfl
@[go_sem] theorem zeroD_51 : zeroD Try.prog 51 = some [.l [], .v (.int .i64 0), .v (.int .i64 0), .v (.int .i64 0), .v (.int .i64 0), .v (.int .i64 0), .v (.int .i64 0)] := by kernel_rfl
@[go_sem] theorem zrow_51 : zrow Try.prog 51 = [.l [], .v (.int .i64 0), .v (.int .i64 0), .v (.int .i64 0), .v (.int .i64 0), .v (.int .i64 0), .v (.int .i64 0)] := by kernel_rfl
@[go_sem] theorem places_51 : placesT Try.prog 51 = some [(0, 1), (1, 1), (2, 1), (3, 1), (4, 1), (5, 1), (6, 1)] := by kernel_rfl
@[go_sem] theorem und_52 : Try.prog.underlying 52 = some (.struct #[⟨"Insts", 50, 0, false, "", "", 0⟩, ⟨"Skin", 2, 1, false, "", "", 24⟩, ⟨"Times", 3, 2, false, "", "", 32⟩, ⟨"Port", 2, 3, false, "", "", 40⟩, ⟨"Bid", 2, 4, false, "", "", 48⟩, ⟨"LotSize", 2, 5, false, "", "", 56⟩, ⟨"HedgeMin", 2, 6, false, "", "", 64⟩]) := by kernel_rfl
@[go_sem] theorem info_52 : (Try.prog.info? 52).isSome = true := by kernel_rfl
@[go_sem] theorem cells_52 : Try.prog.cellsOf 52 = 7 := by kernel_rfl
@[go_sem] theorem agg_52 : isAggT Try.prog 52 = true := by kernel_rfl
@[go_sem] theorem flat_52 : flatTy Try.prog 52 = false := by kernel_rfl
@[go_sem] theorem zeroT_52 : zeroT Try.prog 52 = some [.own 0 [], .d (.v (.int .i64 0)), .d (.v (.int .i64 0)), .d (.v (.int .i64 0)), .d (.v (.int .i64 0)), .d (.v (.int .i64 0)), .d (.v (.int .i64 0))] := by kernel_rfl
@[go_sem] theorem zeroD_52 : zeroD Try.prog 52 = some [.l [], .v (.int .i64 0), .v (.int .i64 0), .v (.int .i64 0), .v (.int .i64 0), .v (.int .i64 0), .v (.int .i64 0)] := by kernel_rfl
@[go_sem] theorem zrow_52 : zrow Try.prog 52 = [.l [], .v (.int .i64 0), .v (.int .i64 0), .v (.int .i64 0), .v (.int .i64 0), .v (.int .i64 0), .v (.int .i64 0)] := by kernel_rfl
@[go_sem] theorem places_52 : placesT Try.prog 52 = some [(0, 1), (1, 1), (2, 1), (3, 1), (4, 1), (5, 1), (6, 1)] := by kernel_rfl
@[go_sem] theorem und_57 : Try.prog.underlying 57 = some (.int .u64) := by kernel_rfl
@[go_sem] theorem info_57 : (Try.prog.info? 57).isSome = true := by kernel_rfl
@[go_sem] theorem cells_57 : Try.prog.cellsOf 57 = 1 := by kernel_rfl
@[go_sem] theorem agg_57 : isAggT Try.prog 57 = false := by kernel_rfl
@[go_sem] theorem flat_57 : flatTy Try.prog 57 = true := by kernel_rfl
@[go_sem] theorem zeroT_57 : zeroT Try.prog 57 = some [.d (.v (.int .u64 0))] := by kernel_rfl
@[go_sem] theorem zeroD_57 : zeroD Try.prog 57 = some [.v (.int .u64 0)] := by kernel_rfl
@[go_sem] theorem zrow_57 : zrow Try.prog 57 = [.v (.int .u64 0)] := by kernel_rfl
@[go_sem] theorem und_58 : Try.prog.underlying 58 = some (.struct #[⟨"Hi", 2, 0, false, "", "", 0⟩, ⟨"Lo", 57, 1, false, "", "", 8⟩]) := by kernel_rfl
@[go_sem] theorem info_58 : (Try.prog.info? 58).isSome = true := by kernel_rfl
@[go_sem] theorem cells_58 : Try.prog.cellsOf 58 = 2 := by kernel_rfl
@[go_sem] theorem agg_58 : isAggT Try.prog 58 = true := by kernel_rfl
@[go_sem] theorem flat_58 : flatTy Try.prog 58 = true := by kernel_rfl
@[go_sem] theorem zeroT_58 : zeroT Try.prog 58 = some [.d (.v (.int .i64 0)), .d (.v (.int .u64 0))] := by kernel_rfl
@[go_sem] theorem zeroD_58 : zeroD Try.prog 58 = some [.v (.int .i64 0), .v (.int .u64 0)] := by kernel_rfl
@[go_sem] theorem zrow_58 : zrow Try.prog 58 = [.v (.int .i64 0), .v (.int .u64 0)] := by kernel_rfl
@[go_sem] theorem eq_58 (op : BinOp) (x0 y0 : Int) (x1 y1 : Int) (K : Go.Ax.T → Prop) : eqAgg Try.prog op 58 [.v (.int .i64 x0), .v (.int .u64 x1)] [.v (.int .i64 y0), .v (.int .u64 y1)] K = match op with | .eql => K (.one (.v (.bool (x0 == y0 && x1 == y1)))) | .neq => K (.one (.v (.bool (!(x0 == y0 && x1 == y1))))) | _ => False :=
  eqAgg_deep und_58 (by kernel_rfl) (ks := [.int .i64, .int .u64]) (by kernel_rfl) (xs := [.int .i64 x0, .int .u64 x1]) (ys := [.int .i64 y0, .int .u64 y1]) (by kernel_rfl) (by kernel_rfl) op K
@[go_sem] theorem places_58 : placesT Try.prog 58 = some [(0, 1), (1, 1)] := by kernel_rfl
@[go_sem] theorem und_59 : Try.prog.underlying 59 = some (.struct #[⟨"Hi", 2, 0, false, "", "", 0⟩, ⟨"Lo", 57, 1, false, "", "", 8⟩]) := by kernel_rfl
@[go_sem] theorem info_59 : (Try.prog.info? 59).isSome = true := by kernel_rfl
@[go_sem] theorem cells_59 : Try.prog.cellsOf 59 = 2 := by kernel_rfl
@[go_sem] theorem agg_59 : isAggT Try.prog 59 = true := by kernel_rfl
@[go_sem] theorem flat_59 : flatTy Try.prog 59 = true := by kernel_rfl
@[go_sem] theorem zeroT_59 : zeroT Try.prog 59 = some [.d (.v (.int .i64 0)), .d (.v (.int .u64 0))] := by kernel_rfl
@[go_sem] theorem zeroD_59 : zeroD Try.prog 59 = some [.v (.int .i64 0), .v (.int .u64 0)] := by kernel_rfl
@[go_sem] theorem zrow_59 : zrow Try.prog 59 = [.v (.int .i64 0), .v (.int .u64 0)] := by kernel_rfl
@[go_sem] theorem eq_59 (op : BinOp) (x0 y0 : Int) (x1 y1 : Int) (K : Go.Ax.T → Prop) : eqAgg Try.prog op 59 [.v (.int .i64 x0), .v (.int .u64 x1)] [.v (.int .i64 y0), .v (.int .u64 y1)] K = match op with | .eql => K (.one (.v (.bool (x0 == y0 && x1 == y1)))) | .neq => K (.one (.v (.bool (!(x0 == y0 && x1 == y1))))) | _ => False :=
  eqAgg_deep und_59 (by kernel_rfl) (ks := [.int .i64, .int .u64]) (by kernel_rfl) (xs := [.int .i64 x0, .int .u64 x1]) (ys := [.int .i64 y0, .int .u64 y1]) (by kernel_rfl) (by kernel_rfl) op K
@[go_sem] theorem places_59 : placesT Try.prog 59 = some [(0, 1), (1, 1)] := by kernel_rfl
@[go_sem] theorem und_62 : Try.prog.underlying 62 = some (.struct #[⟨"Kind", 3, 0, false, "", "", 0⟩, ⟨"N", 3, 1, false, "", "", 8⟩, ⟨"X", 59, 2, false, "", "", 16⟩]) := by kernel_rfl
@[go_sem] theorem info_62 : (Try.prog.info? 62).isSome = true := by kernel_rfl
@[go_sem] theorem cells_62 : Try.prog.cellsOf 62 = 4 := by kernel_rfl
@[go_sem] theorem agg_62 : isAggT Try.prog 62 = true := by kernel_rfl
@[go_sem] theorem flat_62 : flatTy Try.prog 62 = true := by kernel_rfl
@[go_sem] theorem zeroT_62 : zeroT Try.prog 62 = some [.d (.v (.int .i64 0)), .d (.v (.int .i64 0)), .d (.v (.int .i64 0)), .d (.v (.int .u64 0))] := by kernel_rfl
@[go_sem] theorem zeroD_62 : zeroD Try.prog 62 = some [.v (.int .i64 0), .v (.int .i64 0), .v (.int .i64 0), .v (.int .u64 0)] := by kernel_rfl
@[go_sem] theorem zrow_62 : zrow Try.prog 62 = [.v (.int .i64 0), .v (.int .i64 0), .v (.int .i64 0), .v (.int .u64 0)] := by kernel_rfl
@[go_sem] theorem eq_62 (op : BinOp) (x0 y0 : Int) (x1 y1 : Int) (x2 y2 : Int) (x3 y3 : Int) (K : Go.Ax.T → Prop) : eqAgg Try.prog op 62 [.v (.int .i64 x0), .v (.int .i64 x1), .v (.int .i64 x2), .v (.int .u64 x3)] [.v (.int .i64 y0), .v (.int .i64 y1), .v (.int .i64 y2), .v (.int .u64 y3)] K = match op with | .eql => K (.one (.v (.bool (x0 == y0 && (x1 == y1 && (x2 == y2 && x3 == y3)))))) | .neq => K (.one (.v (.bool (!(x0 == y0 && (x1 == y1 && (x2 == y2 && x3 == y3))))))) | _ => False :=
  eqAgg_deep und_62 (by kernel_rfl) (ks := [.int .i64, .int .i64, .int .i64, .int .u64]) (by kernel_rfl) (xs := [.int .i64 x0, .int .i64 x1, .int .i64 x2, .int .u64 x3]) (ys := [.int .i64 y0, .int .i64 y1, .int .i64 y2, .int .u64 y3]) (by kernel_rfl) (by kernel_rfl) op K
@[go_sem] theorem places_62 : placesT Try.prog 62 = some [(0, 1), (1, 1), (2, 2)] := by kernel_rfl
@[go_sem] theorem und_63 : Try.prog.underlying 63 = some (.struct #[⟨"Kind", 3, 0, false, "", "", 0⟩, ⟨"N", 3, 1, false, "", "", 8⟩, ⟨"X", 59, 2, false, "", "", 16⟩]) := by kernel_rfl
@[go_sem] theorem info_63 : (Try.prog.info? 63).isSome = true := by kernel_rfl
@[go_sem] theorem cells_63 : Try.prog.cellsOf 63 = 4 := by kernel_rfl
@[go_sem] theorem agg_63 : isAggT Try.prog 63 = true := by kernel_rfl
@[go_sem] theorem flat_63 : flatTy Try.prog 63 = true := by kernel_rfl
@[go_sem] theorem zeroT_63 : zeroT Try.prog 63 = some [.d (.v (.int .i64 0)), .d (.v (.int .i64 0)), .d (.v (.int .i64 0)), .d (.v (.int .u64 0))] := by kernel_rfl
@[go_sem] theorem zeroD_63 : zeroD Try.prog 63 = some [.v (.int .i64 0), .v (.int .i64 0), .v (.int .i64 0), .v (.int .u64 0)] := by kernel_rfl
@[go_sem] theorem zrow_63 : zrow Try.prog 63 = [.v (.int .i64 0), .v (.int .i64 0), .v (.int .i64 0), .v (.int .u64 0)] := by kernel_rfl
@[go_sem] theorem eq_63 (op : BinOp) (x0 y0 : Int) (x1 y1 : Int) (x2 y2 : Int) (x3 y3 : Int) (K : Go.Ax.T → Prop) : eqAgg Try.prog op 63 [.v (.int .i64 x0), .v (.int .i64 x1), .v (.int .i64 x2), .v (.int .u64 x3)] [.v (.int .i64 y0), .v (.int .i64 y1), .v (.int .i64 y2), .v (.int .u64 y3)] K = match op with | .eql => K (.one (.v (.bool (x0 == y0 && (x1 == y1 && (x2 == y2 && x3 == y3)))))) | .neq => K (.one (.v (.bool (!(x0 == y0 && (x1 == y1 && (x2 == y2 && x3 == y3))))))) | _ => False :=
  eqAgg_deep und_63 (by kernel_rfl) (ks := [.int .i64, .int .i64, .int .i64, .int .u64]) (by kernel_rfl) (xs := [.int .i64 x0, .int .i64 x1, .int .i64 x2, .int .u64 x3]) (ys := [.int .i64 y0, .int .i64 y1, .int .i64 y2, .int .u64 y3]) (by kernel_rfl) (by kernel_rfl) op K
@[go_sem] theorem places_63 : placesT Try.prog 63 = some [(0, 1), (1, 1), (2, 2)] := by kernel_rfl
@[go_sem] theorem und_66 : Try.prog.underlying 66 = some (.slice 133) := by kernel_rfl
@[go_sem] theorem info_66 : (Try.prog.info? 66).isSome = true := by kernel_rfl
@[go_sem] theorem cells_66 : Try.prog.cellsOf 66 = 1 := by kernel_rfl
@[go_sem] theorem agg_66 : isAggT Try.prog 66 = false := by kernel_rfl
@[go_sem] theorem flat_66 : flatTy Try.prog 66 = false := by kernel_rfl
@[go_sem] theorem zeroT_66 : zeroT Try.prog 66 = some [.own 0 []] := by kernel_rfl
@[go_sem] theorem zeroD_66 : zeroD Try.prog 66 = some [.l []] := by kernel_rfl
@[go_sem] theorem zrow_66 : zrow Try.prog 66 = [.l []] := by kernel_rfl
@[go_sem] theorem stride_66 : strideT Try.prog 66 = 2 := by kernel_rfl
@[go_sem] theorem elem_66 : elemT Try.prog 66 = some (133, 2, 16, [.v (.int .i64 0), .v (.int .i64 0)]) := by kernel_rfl
@[go_sem] theorem und_67 : Try.prog.underlying 67 = some (.slice 135) := by kernel_rfl
@[go_sem] theorem info_67 : (Try.prog.info? 67).isSome = true := by kernel_rfl
@[go_sem] theorem cells_67 : Try.prog.cellsOf 67 = 1 := by kernel_rfl
@[go_sem] theorem agg_67 : isAggT Try.prog 67 = false := by kernel_rfl
@[go_sem] theorem flat_67 : flatTy Try.prog 67 = false := by kernel_rfl
@[go_sem] theorem zeroT_67 : zeroT Try.prog 67 = some [.own 0 []] := by kernel_rfl
@[go_sem] theorem zeroD_67 : zeroD Try.prog 67 = some [.l []] := by kernel_rfl
@[go_sem] theorem zrow_67 : zrow Try.prog 67 = [.l []] := by kernel_rfl
@[go_sem] theorem stride_67 : strideT Try.prog 67 = 3 := by kernel_rfl
@[go_sem] theorem elem_67 : elemT Try.prog 67 = some (135, 3, 24, [.v (.int .i64 0), .v (.int .i64 0), .v (.int .i64 0)]) := by kernel_rfl
@[go_sem] theorem und_69 : Try.prog.underlying 69 = some (.slice 80) := by kernel_rfl
@[go_sem] theorem info_69 : (Try.prog.info? 69).isSome = true := by kernel_rfl
@[go_sem] theorem cells_69 : Try.prog.cellsOf 69 = 1 := by kernel_rfl
@[go_sem] theorem agg_69 : isAggT Try.prog 69 = false := by kernel_rfl
@[go_sem] theorem flat_69 : flatTy Try.prog 69 = false := by kernel_rfl
@[go_sem] theorem zeroT_69 : zeroT Try.prog 69 = some [.own 0 []] := by kernel_rfl
@[go_sem] theorem zeroD_69 : zeroD Try.prog 69 = some [.l []] := by kernel_rfl
@[go_sem] theorem zrow_69 : zrow Try.prog 69 = [.l []] := by kernel_rfl
@[go_sem] theorem stride_69 : strideT Try.prog 69 = 3 := by kernel_rfl
@[go_sem] theorem elem_69 : elemT Try.prog 69 = some (80, 3, 24, [.v (.int .i64 0), .v (.int .i64 0), .v (.int .i64 0)]) := by kernel_rfl
@[go_sem] theorem und_75 : Try.prog.underlying 75 = some (.struct #[⟨"Neg", 4, 0, false, "", "", 0⟩, ⟨"D", 44, 1, false, "", "", 8⟩]) := by kernel_rfl
@[go_sem] theorem info_75 : (Try.prog.info? 75).isSome = true := by kernel_rfl
@[go_sem] theorem cells_75 : Try.prog.cellsOf 75 = 2 := by kernel_rfl
@[go_sem] theorem agg_75 : isAggT Try.prog 75 = true := by kernel_rfl
@[go_sem] theorem flat_75 : flatTy Try.prog 75 = false := by kernel_rfl
@[go_sem] theorem zeroT_75 : zeroT Try.prog 75 = some [.d (.v (.bool false)), .own 0 []] := by kernel_rfl
@[go_sem] theorem zeroD_75 : zeroD Try.prog 75 = some [.v (.bool false), .l []] := by kernel_rfl
@[go_sem] theorem zrow_75 : zrow Try.prog 75 = [.v (.bool false), .l []] := by kernel_rfl
@[go_sem] theorem places_75 : placesT Try.prog 75 = some [(0, 1), (1, 1)] := by kernel_rfl
@[go_sem] theorem und_76 : Try.prog.underlying 76 = some (.struct #[⟨"Neg", 4, 0, false, "", "", 0⟩, ⟨"D", 44, 1, false, "", "", 8⟩]) := by kernel_rfl
@[go_sem] theorem info_76 : (Try.prog.info? 76).isSome = true := by kernel_rfl
@[go_sem] theorem cells_76 : Try.prog.cellsOf 76 = 2 := by kernel_rfl
@[go_sem] theorem agg_76 : isAggT Try.prog 76 = true := by kernel_rfl
@[go_sem] theorem flat_76 : flatTy Try.prog 76 = false := by kernel_rfl
@[go_sem] theorem zeroT_76 : zeroT Try.prog 76 = some [.d (.v (.bool false)), .own 0 []] := by kernel_rfl
@[go_sem] theorem zeroD_76 : zeroD Try.prog 76 = some [.v (.bool false), .l []] := by kernel_rfl
@[go_sem] theorem zrow_76 : zrow Try.prog 76 = [.v (.bool false), .l []] := by kernel_rfl
@[go_sem] theorem places_76 : placesT Try.prog 76 = some [(0, 1), (1, 1)] := by kernel_rfl
@[go_sem] theorem und_79 : Try.prog.underlying 79 = some (.struct #[⟨"Kind", 3, 0, false, "", "", 0⟩, ⟨"N", 3, 1, false, "", "", 8⟩, ⟨"Sum", 2, 2, false, "", "", 16⟩]) := by kernel_rfl
@[go_sem] theorem info_79 : (Try.prog.info? 79).isSome = true := by kernel_rfl
@[go_sem] theorem cells_79 : Try.prog.cellsOf 79 = 3 := by kernel_rfl
@[go_sem] theorem agg_79 : isAggT Try.prog 79 = true := by kernel_rfl
@[go_sem] theorem flat_79 : flatTy Try.prog 79 = true := by kernel_rfl
@[go_sem] theorem zeroT_79 : zeroT Try.prog 79 = some [.d (.v (.int .i64 0)), .d (.v (.int .i64 0)), .d (.v (.int .i64 0))] := by kernel_rfl
@[go_sem] theorem zeroD_79 : zeroD Try.prog 79 = some [.v (.int .i64 0), .v (.int .i64 0), .v (.int .i64 0)] := by kernel_rfl
@[go_sem] theorem zrow_79 : zrow Try.prog 79 = [.v (.int .i64 0), .v (.int .i64 0), .v (.int .i64 0)] := by kernel_rfl
@[go_sem] theorem eq_79 (op : BinOp) (x0 y0 : Int) (x1 y1 : Int) (x2 y2 : Int) (K : Go.Ax.T → Prop) : eqAgg Try.prog op 79 [.v (.int .i64 x0), .v (.int .i64 x1), .v (.int .i64 x2)] [.v (.int .i64 y0), .v (.int .i64 y1), .v (.int .i64 y2)] K = match op with | .eql => K (.one (.v (.bool (x0 == y0 && (x1 == y1 && x2 == y2))))) | .neq => K (.one (.v (.bool (!(x0 == y0 && (x1 == y1 && x2 == y2)))))) | _ => False :=
  eqAgg_deep und_79 (by kernel_rfl) (ks := [.int .i64, .int .i64, .int .i64]) (by kernel_rfl) (xs := [.int .i64 x0, .int .i64 x1, .int .i64 x2]) (ys := [.int .i64 y0, .int .i64 y1, .int .i64 y2]) (by kernel_rfl) (by kernel_rfl) op K
@[go_sem] theorem places_79 : placesT Try.prog 79 = some [(0, 1), (1, 1), (2, 1)] := by kernel_rfl
@[go_sem] theorem und_80 : Try.prog.underlying 80 = some (.struct #[⟨"Kind", 3, 0, false, "", "", 0⟩, ⟨"N", 3, 1, false, "", "", 8⟩, ⟨"Sum", 2, 2, false, "", "", 16⟩]) := by kernel_rfl
@[go_sem] theorem info_80 : (Try.prog.info? 80).isSome = true := by kernel_rfl
@[go_sem] theorem cells_80 : Try.prog.cellsOf 80 = 3 := by kernel_rfl
@[go_sem] theorem agg_80 : isAggT Try.prog 80 = true := by kernel_rfl
@[go_sem] theorem flat_80 : flatTy Try.prog 80 = true := by kernel_rfl
@[go_sem] theorem zeroT_80 : zeroT Try.prog 80 = some [.d (.v (.int .i64 0)), .d (.v (.int .i64 0)), .d (.v (.int .i64 0))] := by kernel_rfl
@[go_sem] theorem zeroD_80 : zeroD Try.prog 80 = some [.v (.int .i64 0), .v (.int .i64 0), .v (.int .i64 0)] := by kernel_rfl
@[go_sem] theorem zrow_80 : zrow Try.prog 80 = [.v (.int .i64 0), .v (.int .i64 0), .v (.int .i64 0)] := by kernel_rfl
@[go_sem] theorem eq_80 (op : BinOp) (x0 y0 : Int) (x1 y1 : Int) (x2 y2 : Int) (K : Go.Ax.T → Prop) : eqAgg Try.prog op 80 [.v (.int .i64 x0), .v (.int .i64 x1), .v (.int .i64 x2)] [.v (.int .i64 y0), .v (.int .i64 y1), .v (.int .i64 y2)] K = match op with | .eql => K (.one (.v (.bool (x0 == y0 && (x1 == y1 && x2 == y2))))) | .neq => K (.one (.v (.bool (!(x0 == y0 && (x1 == y1 && x2 == y2)))))) | _ => False :=
  eqAgg_deep und_80 (by kernel_rfl) (ks := [.int .i64, .int .i64, .int .i64]) (by kernel_rfl) (xs := [.int .i64 x0, .int .i64 x1, .int .i64 x2]) (ys := [.int .i64 y0, .int .i64 y1, .int .i64 y2]) (by kernel_rfl) (by kernel_rfl) op K
@[go_sem] theorem places_80 : placesT Try.prog 80 = some [(0, 1), (1, 1), (2, 1)] := by kernel_rfl
@[go_sem] theorem und_94 : Try.prog.underlying 94 = some (.slice 158) := by kernel_rfl
@[go_sem] theorem info_94 : (Try.prog.info? 94).isSome = true := by kernel_rfl
@[go_sem] theorem cells_94 : Try.prog.cellsOf 94 = 1 := by kernel_rfl
@[go_sem] theorem agg_94 : isAggT Try.prog 94 = false := by kernel_rfl
@[go_sem] theorem flat_94 : flatTy Try.prog 94 = false := by kernel_rfl
@[go_sem] theorem zeroT_94 : zeroT Try.prog 94 = some [.own 0 []] := by kernel_rfl
@[go_sem] theorem zeroD_94 : zeroD Try.prog 94 = some [.l []] := by kernel_rfl
@[go_sem] theorem zrow_94 : zrow Try.prog 94 = [.l []] := by kernel_rfl
@[go_sem] theorem stride_94 : strideT Try.prog 94 = 3 := by kernel_rfl
@[go_sem] theorem elem_94 : elemT Try.prog 94 = some (158, 3, 24, [.v (.int .i64 0), .v (.int .i64 0), .v (.int .i64 0)]) := by kernel_rfl
@[go_sem] theorem und_98 : Try.prog.underlying 98 = some (.struct #[⟨"Acc", 3, 0, false, "", "", 0⟩, ⟨"Inst", 3, 1, false, "", "", 8⟩, ⟨"Q", 2, 2, false, "", "", 16⟩]) := by kernel_rfl
@[go_sem] theorem info_98 : (Try.prog.info? 98).isSome = true := by kernel_rfl
@[go_sem] theorem cells_98 : Try.prog.cellsOf 98 = 3 := by kernel_rfl
@[go_sem] theorem agg_98 : isAggT Try.prog 98 = true := by kernel_rfl
@[go_sem] theorem flat_98 : flatTy Try.prog 98 = true := by kernel_rfl
@[go_sem] theorem zeroT_98 : zeroT Try.prog 98 = some [.d (.v (.int .i64 0)), .d (.v (.int .i64 0)), .d (.v (.int .i64 0))] := by kernel_rfl
@[go_sem] theorem zeroD_98 : zeroD Try.prog 98 = some [.v (.int .i64 0), .v (.int .i64 0), .v (.int .i64 0)] := by kernel_rfl
@[go_sem] theorem zrow_98 : zrow Try.prog 98 = [.v (.int .i64 0), .v (.int .i64 0), .v (.int .i64 0)] := by kernel_rfl
@[go_sem] theorem eq_98 (op : BinOp) (x0 y0 : Int) (x1 y1 : Int) (x2 y2 : Int) (K : Go.Ax.T → Prop) : eqAgg Try.prog op 98 [.v (.int .i64 x0), .v (.int .i64 x1), .v (.int .i64 x2)] [.v (.int .i64 y0), .v (.int .i64 y1), .v (.int .i64 y2)] K = match op with | .eql => K (.one (.v (.bool (x0 == y0 && (x1 == y1 && x2 == y2))))) | .neq => K (.one (.v (.bool (!(x0 == y0 && (x1 == y1 && x2 == y2)))))) | _ => False :=
  eqAgg_deep und_98 (by kernel_rfl) (ks := [.int .i64, .int .i64, .int .i64]) (by kernel_rfl) (xs := [.int .i64 x0, .int .i64 x1, .int .i64 x2]) (ys := [.int .i64 y0, .int .i64 y1, .int .i64 y2]) (by kernel_rfl) (by kernel_rfl) op K
@[go_sem] theorem places_98 : placesT Try.prog 98 = some [(0, 1), (1, 1), (2, 1)] := by kernel_rfl
@[go_sem] theorem und_99 : Try.prog.underlying 99 = some (.struct #[⟨"Acc", 3, 0, false, "", "", 0⟩, ⟨"Inst", 3, 1, false, "", "", 8⟩, ⟨"Q", 2, 2, false, "", "", 16⟩]) := by kernel_rfl
@[go_sem] theorem info_99 : (Try.prog.info? 99).isSome = true := by kernel_rfl
@[go_sem] theorem cells_99 : Try.prog.cellsOf 99 = 3 := by kernel_rfl
@[go_sem] theorem agg_99 : isAggT Try.prog 99 = true := by kernel_rfl
@[go_sem] theorem flat_99 : flatTy Try.prog 99 = true := by kernel_rfl
@[go_sem] theorem zeroT_99 : zeroT Try.prog 99 = some [.d (.v (.int .i64 0)), .d (.v (.int .i64 0)), .d (.v (.int .i64 0))] := by kernel_rfl
@[go_sem] theorem zeroD_99 : zeroD Try.prog 99 = some [.v (.int .i64 0), .v (.int .i64 0), .v (.int .i64 0)] := by kernel_rfl
@[go_sem] theorem zrow_99 : zrow Try.prog 99 = [.v (.int .i64 0), .v (.int .i64 0), .v (.int .i64 0)] := by kernel_rfl
@[go_sem] theorem eq_99 (op : BinOp) (x0 y0 : Int) (x1 y1 : Int) (x2 y2 : Int) (K : Go.Ax.T → Prop) : eqAgg Try.prog op 99 [.v (.int .i64 x0), .v (.int .i64 x1), .v (.int .i64 x2)] [.v (.int .i64 y0), .v (.int .i64 y1), .v (.int .i64 y2)] K = match op with | .eql => K (.one (.v (.bool (x0 == y0 && (x1 == y1 && x2 == y2))))) | .neq => K (.one (.v (.bool (!(x0 == y0 && (x1 == y1 && x2 == y2)))))) | _ => False :=
  eqAgg_deep und_99 (by kernel_rfl) (ks := [.int .i64, .int .i64, .int .i64]) (by kernel_rfl) (xs := [.int .i64 x0, .int .i64 x1, .int .i64 x2]) (ys := [.int .i64 y0, .int .i64 y1, .int .i64 y2]) (by kernel_rfl) (by kernel_rfl) op K
@[go_sem] theorem places_99 : placesT Try.prog 99 = some [(0, 1), (1, 1), (2, 1)] := by kernel_rfl
@[go_sem] theorem und_101 : Try.prog.underlying 101 = some (.struct #[⟨"Acc", 3, 0, false, "", "", 0⟩, ⟨"X", 2, 1, false, "", "", 8⟩]) := by kernel_rfl
@[go_sem] theorem info_101 : (Try.prog.info? 101).isSome = true := by kernel_rfl
@[go_sem] theorem cells_101 : Try.prog.cellsOf 101 = 2 := by kernel_rfl
@[go_sem] theorem agg_101 : isAggT Try.prog 101 = true := by kernel_rfl
@[go_sem] theorem flat_101 : flatTy Try.prog 101 = true := by kernel_rfl
@[go_sem] theorem zeroT_101 : zeroT Try.prog 101 = some [.d (.v (.int .i64 0)), .d (.v (.int .i64 0))] := by kernel_rfl
@[go_sem] theorem zeroD_101 : zeroD Try.prog 101 = some [.v (.int .i64 0), .v (.int .i64 0)] := by kernel_rfl
@[go_sem] theorem zrow_101 : zrow Try.prog 101 = [.v (.int .i64 0), .v (.int .i64 0)] := by kernel_rfl
@[go_sem] theorem eq_101 (op : BinOp) (x0 y0 : Int) (x1 y1 : Int) (K : Go.Ax.T → Prop) : eqAgg Try.prog op 101 [.v (.int .i64 x0), .v (.int .i64 x1)] [.v (.int .i64 y0), .v (.int .i64 y1)] K = match op with | .eql => K (.one (.v (.bool (x0 == y0 && x1 == y1)))) | .neq => K (.one (.v (.bool (!(x0 == y0 && x1 == y1))))) | _ => False :=
  eqAgg_deep und_101 (by kernel_rfl) (ks := [.int .i64, .int .i64]) (by kernel_rfl) (xs := [.int .i64 x0, .int .i64 x1]) (ys := [.int .i64 y0, .int .i64 y1]) (by kernel_rfl) (by kernel_rfl) op K
@[go_sem] theorem places_101 : placesT Try.prog 101 = some [(0, 1), (1, 1)] := by kernel_rfl
@[go_sem] theorem und_102 : Try.prog.underlying 102 = some (.struct #[⟨"Acc", 3, 0, false, "", "", 0⟩, ⟨"X", 2, 1, false, "", "", 8⟩]) := by kernel_rfl
@[go_sem] theorem info_102 : (Try.prog.info? 102).isSome = true := by kernel_rfl
@[go_sem] theorem cells_102 : Try.prog.cellsOf 102 = 2 := by kernel_rfl
@[go_sem] theorem agg_102 : isAggT Try.prog 102 = true := by kernel_rfl
@[go_sem] theorem flat_102 : flatTy Try.prog 102 = true := by kernel_rfl
@[go_sem] theorem zeroT_102 : zeroT Try.prog 102 = some [.d (.v (.int .i64 0)), .d (.v (.int .i64 0))] := by kernel_rfl
@[go_sem] theorem zeroD_102 : zeroD Try.prog 102 = some [.v (.int .i64 0), .v (.int .i64 0)] := by kernel_rfl
@[go_sem] theorem zrow_102 : zrow Try.prog 102 = [.v (.int .i64 0), .v (.int .i64 0)] := by kernel_rfl
@[go_sem] theorem eq_102 (op : BinOp) (x0 y0 : Int) (x1 y1 : Int) (K : Go.Ax.T → Prop) : eqAgg Try.prog op 102 [.v (.int .i64 x0), .v (.int .i64 x1)] [.v (.int .i64 y0), .v (.int .i64 y1)] K = match op with | .eql => K (.one (.v (.bool (x0 == y0 && x1 == y1)))) | .neq => K (.one (.v (.bool (!(x0 == y0 && x1 == y1))))) | _ => False :=
  eqAgg_deep und_102 (by kernel_rfl) (ks := [.int .i64, .int .i64]) (by kernel_rfl) (xs := [.int .i64 x0, .int .i64 x1]) (ys := [.int .i64 y0, .int .i64 y1]) (by kernel_rfl) (by kernel_rfl) op K
@[go_sem] theorem places_102 : placesT Try.prog 102 = some [(0, 1), (1, 1)] := by kernel_rfl
@[go_sem] theorem und_111 : Try.prog.underlying 111 = some (.struct #[⟨"Kind", 3, 0, false, "", "", 0⟩, ⟨"N", 3, 1, false, "", "", 8⟩, ⟨"X", 76, 2, false, "", "", 16⟩]) := by kernel_rfl
@[go_sem] theorem info_111 : (Try.prog.info? 111).isSome = true := by kernel_rfl
@[go_sem] theorem cells_111 : Try.prog.cellsOf 111 = 4 := by kernel_rfl
@[go_sem] theorem agg_111 : isAggT Try.prog 111 = true := by kernel_rfl
@[go_sem] theorem flat_111 : flatTy Try.prog 111 = false := by kernel_rfl
@[go_sem] theorem zeroT_111 : zeroT Try.prog 111 = some [.d (.v (.int .i64 0)), .d (.v (.int .i64 0)), .d (.v (.bool false)), .own 0 []] := by kernel_rfl
@[go_sem] theorem zeroD_111 : zeroD Try.prog 111 = some [.v (.int .i64 0), .v (.int .i64 0), .v (.bool false), .l []] := by kernel_rfl
@[go_sem] theorem zrow_111 : zrow Try.prog 111 = [.v (.int .i64 0), .v (.int .i64 0), .v (.bool false), .l []] := by kernel_rfl
@[go_sem] theorem places_111 : placesT Try.prog 111 = some [(0, 1), (1, 1), (2, 2)] := by kernel_rfl
@[go_sem] theorem und_112 : Try.prog.underlying 112 = some (.struct #[⟨"Kind", 3, 0, false, "", "", 0⟩, ⟨"N", 3, 1, false, "", "", 8⟩, ⟨"X", 76, 2, false, "", "", 16⟩]) := by kernel_rfl
@[go_sem] theorem info_112 : (Try.prog.info? 112).isSome = true := by kernel_rfl
@[go_sem] theorem cells_112 : Try.prog.cellsOf 112 = 4 := by kernel_rfl
@[go_sem] theorem agg_112 : isAggT Try.prog 112 = true := by kernel_rfl
@[go_sem] theorem flat_112 : flatTy Try.prog 112 = false := by kernel_rfl
@[go_sem] theorem zeroT_112 : zeroT Try.prog 112 = some [.d (.v (.int .i64 0)), .d (.v (.int .i64 0)), .d (.v (.bool false)), .own 0 []] := by kernel_rfl
@[go_sem] theorem zeroD_112 : zeroD Try.prog 112 = some [.v (.int .i64 0), .v (.int .i64 0), .v (.bool false), .l []] := by kernel_rfl
@[go_sem] theorem zrow_112 : zrow Try.prog 112 = [.v (.int .i64 0), .v (.int .i64 0), .v (.bool false), .l []] := by kernel_rfl
@[go_sem] theorem places_112 : placesT Try.prog 112 = some [(0, 1), (1, 1), (2, 2)] := by kernel_rfl
@[go_sem] theorem und_114 : Try.prog.underlying 114 = some (.slice 59) := by kernel_rfl
@[go_sem] theorem info_114 : (Try.prog.info? 114).isSome = true := by kernel_rfl
@[go_sem] theorem cells_114 : Try.prog.cellsOf 114 = 1 := by kernel_rfl
@[go_sem] theorem agg_114 : isAggT Try.prog 114 = false := by kernel_rfl
@[go_sem] theorem flat_114 : flatTy Try.prog 114 = false := by kernel_rfl
@[go_sem] theorem zeroT_114 : zeroT Try.prog 114 = some [.own 0 []] := by kernel_rfl
@[go_sem] theorem zeroD_114 : zeroD Try.prog 114 = some [.l []] := by kernel_rfl
@[go_sem] theorem zrow_114 : zrow Try.prog 114 = [.l []] := by kernel_rfl
@[go_sem] theorem stride_114 : strideT Try.prog 114 = 2 := by kernel_rfl
@[go_sem] theorem elem_114 : elemT Try.prog 114 = some (59, 2, 16, [.v (.int .i64 0), .v (.int .u64 0)]) := by kernel_rfl
@[go_sem] theorem und_115 : Try.prog.underlying 115 = some (.array 25 114) := by kernel_rfl
@[go_sem] theorem info_115 : (Try.prog.info? 115).isSome = true := by kernel_rfl
@[go_sem] theorem cells_115 : Try.prog.cellsOf 115 = 25 := by kernel_rfl
@[go_sem] theorem agg_115 : isAggT Try.prog 115 = true := by kernel_rfl
@[go_sem] theorem flat_115 : flatTy Try.prog 115 = false := by kernel_rfl
@[go_sem] theorem zeroT_115 : zeroT Try.prog 115 = some [.own 0 [], .own 0 [], .own 0 [], .own 0 [], .own 0 [], .own 0 [], .own 0 [], .own 0 [], .own 0 [], .own 0 [], .own 0 [], .own 0 [], .own 0 [], .own 0 [], .own 0 [], .own 0 [], .own 0 [], .own 0 [], .own 0 [], .own 0 [], .own 0 [], .own 0 [], .own 0 [], .own 0 [], .own 0 []] := by kernel_rfl
@[go_sem] theorem zeroD_115 : zeroD Try.prog 115 = some [.l [], .l [], .l [], .l [], .l [], .l [], .l [], .l [], .l [], .l [], .l [], .l [], .l [], .l [], .l [], .l [], .l [], .l [], .l [], .l [], .l [], .l [], .l [], .l [], .l []] := by kernel_rfl
@[go_sem] theorem zrow_115 : zrow Try.prog 115 = [.l [], .l [], .l [], .l [], .l [], .l [], .l [], .l [], .l [], .l [], .l [], .l [], .l [], .l [], .l [], .l [], .l [], .l [], .l [], .l [], .l [], .l [], .l [], .l [], .l []] := by kernel_rfl
@[go_sem] theorem places_115 : placesT Try.prog 115 = none := by kernel_rfl
@[go_sem] theorem arr_115 : arrT Try.prog 115 = some 1 := by kernel_rfl
@[go_sem] theorem und_120 : Try.prog.underlying 120 = some (.struct #[⟨"L", 44, 0, false, "", "", 0⟩, ⟨"i", 3, 1, false, "", "novation/novationseat", 24⟩]) := by kernel_rfl
@[go_sem] theorem info_120 : (Try.prog.info? 120).isSome = true := by kernel_rfl
@[go_sem] theorem cells_120 : Try.prog.cellsOf 120 = 2 := by kernel_rfl
@[go_sem] theorem agg_120 : isAggT Try.prog 120 = true := by kernel_rfl
@[go_sem] theorem flat_120 : flatTy Try.prog 120 = false := by kernel_rfl
@[go_sem] theorem zeroT_120 : zeroT Try.prog 120 = some [.own 0 [], .d (.v (.int .i64 0))] := by kernel_rfl
@[go_sem] theorem zeroD_120 : zeroD Try.prog 120 = some [.l [], .v (.int .i64 0)] := by kernel_rfl
@[go_sem] theorem zrow_120 : zrow Try.prog 120 = [.l [], .v (.int .i64 0)] := by kernel_rfl
@[go_sem] theorem places_120 : placesT Try.prog 120 = some [(0, 1), (1, 1)] := by kernel_rfl
@[go_sem] theorem und_121 : Try.prog.underlying 121 = some (.struct #[⟨"L", 44, 0, false, "", "", 0⟩, ⟨"i", 3, 1, false, "", "novation/novationseat", 24⟩]) := by kernel_rfl
@[go_sem] theorem info_121 : (Try.prog.info? 121).isSome = true := by kernel_rfl
@[go_sem] theorem cells_121 : Try.prog.cellsOf 121 = 2 := by kernel_rfl
@[go_sem] theorem agg_121 : isAggT Try.prog 121 = true := by kernel_rfl
@[go_sem] theorem flat_121 : flatTy Try.prog 121 = false := by kernel_rfl
@[go_sem] theorem zeroT_121 : zeroT Try.prog 121 = some [.own 0 [], .d (.v (.int .i64 0))] := by kernel_rfl
@[go_sem] theorem zeroD_121 : zeroD Try.prog 121 = some [.l [], .v (.int .i64 0)] := by kernel_rfl
@[go_sem] theorem zrow_121 : zrow Try.prog 121 = [.l [], .v (.int .i64 0)] := by kernel_rfl
@[go_sem] theorem places_121 : placesT Try.prog 121 = some [(0, 1), (1, 1)] := by kernel_rfl
@[go_sem] theorem und_124 : Try.prog.underlying 124 = some (.struct #[⟨"Bucket", 3, 0, false, "", "", 0⟩, ⟨"Price", 2, 1, false, "", "", 8⟩, ⟨"Rate", 2, 2, false, "", "", 16⟩, ⟨"Slip", 2, 3, false, "", "", 24⟩]) := by kernel_rfl
@[go_sem] theorem info_124 : (Try.prog.info? 124).isSome = true := by kernel_rfl
@[go_sem] theorem cells_124 : Try.prog.cellsOf 124 = 4 := by kernel_rfl
@[go_sem] theorem agg_124 : isAggT Try.prog 124 = true := by kernel_rfl
@[go_sem] theorem flat_124 : flatTy Try.prog 124 = true := by kernel_rfl
@[go_sem] theorem zeroT_124 : zeroT Try.prog 124 = some [.d (.v (.int .i64 0)), .d (.v (.int .i64 0)), .d (.v (.int .i64 0)), .d (.v (.int .i64 0))] := by kernel_rfl
@[go_sem] theorem zeroD_124 : zeroD Try.prog 124 = some [.v (.int .i64 0), .v (.int .i64 0), .v (.int .i64 0), .v (.int .i64 0)] := by kernel_rfl
@[go_sem] theorem zrow_124 : zrow Try.prog 124 = [.v (.int .i64 0), .v (.int .i64 0), .v (.int .i64 0), .v (.int .i64 0)] := by kernel_rfl
@[go_sem] theorem eq_124 (op : BinOp) (x0 y0 : Int) (x1 y1 : Int) (x2 y2 : Int) (x3 y3 : Int) (K : Go.Ax.T → Prop) : eqAgg Try.prog op 124 [.v (.int .i64 x0), .v (.int .i64 x1), .v (.int .i64 x2), .v (.int .i64 x3)] [.v (.int .i64 y0), .v (.int .i64 y1), .v (.int .i64 y2), .v (.int .i64 y3)] K = match op with | .eql => K (.one (.v (.bool (x0 == y0 && (x1 == y1 && (x2 == y2 && x3 == y3)))))) | .neq => K (.one (.v (.bool (!(x0 == y0 && (x1 == y1 && (x2 == y2 && x3 == y3))))))) | _ => False :=
  eqAgg_deep und_124 (by kernel_rfl) (ks := [.int .i64, .int .i64, .int .i64, .int .i64]) (by kernel_rfl) (xs := [.int .i64 x0, .int .i64 x1, .int .i64 x2, .int .i64 x3]) (ys := [.int .i64 y0, .int .i64 y1, .int .i64 y2, .int .i64 y3]) (by kernel_rfl) (by kernel_rfl) op K
@[go_sem] theorem places_124 : placesT Try.prog 124 = some [(0, 1), (1, 1), (2, 1), (3, 1)] := by kernel_rfl
@[go_sem] theorem und_125 : Try.prog.underlying 125 = some (.struct #[⟨"Bucket", 3, 0, false, "", "", 0⟩, ⟨"Price", 2, 1, false, "", "", 8⟩, ⟨"Rate", 2, 2, false, "", "", 16⟩, ⟨"Slip", 2, 3, false, "", "", 24⟩]) := by kernel_rfl
@[go_sem] theorem info_125 : (Try.prog.info? 125).isSome = true := by kernel_rfl
@[go_sem] theorem cells_125 : Try.prog.cellsOf 125 = 4 := by kernel_rfl
@[go_sem] theorem agg_125 : isAggT Try.prog 125 = true := by kernel_rfl
@[go_sem] theorem flat_125 : flatTy Try.prog 125 = true := by kernel_rfl
@[go_sem] theorem zeroT_125 : zeroT Try.prog 125 = some [.d (.v (.int .i64 0)), .d (.v (.int .i64 0)), .d (.v (.int .i64 0)), .d (.v (.int .i64 0))] := by kernel_rfl
@[go_sem] theorem zeroD_125 : zeroD Try.prog 125 = some [.v (.int .i64 0), .v (.int .i64 0), .v (.int .i64 0), .v (.int .i64 0)] := by kernel_rfl
@[go_sem] theorem zrow_125 : zrow Try.prog 125 = [.v (.int .i64 0), .v (.int .i64 0), .v (.int .i64 0), .v (.int .i64 0)] := by kernel_rfl
@[go_sem] theorem eq_125 (op : BinOp) (x0 y0 : Int) (x1 y1 : Int) (x2 y2 : Int) (x3 y3 : Int) (K : Go.Ax.T → Prop) : eqAgg Try.prog op 125 [.v (.int .i64 x0), .v (.int .i64 x1), .v (.int .i64 x2), .v (.int .i64 x3)] [.v (.int .i64 y0), .v (.int .i64 y1), .v (.int .i64 y2), .v (.int .i64 y3)] K = match op with | .eql => K (.one (.v (.bool (x0 == y0 && (x1 == y1 && (x2 == y2 && x3 == y3)))))) | .neq => K (.one (.v (.bool (!(x0 == y0 && (x1 == y1 && (x2 == y2 && x3 == y3))))))) | _ => False :=
  eqAgg_deep und_125 (by kernel_rfl) (ks := [.int .i64, .int .i64, .int .i64, .int .i64]) (by kernel_rfl) (xs := [.int .i64 x0, .int .i64 x1, .int .i64 x2, .int .i64 x3]) (ys := [.int .i64 y0, .int .i64 y1, .int .i64 y2, .int .i64 y3]) (by kernel_rfl) (by kernel_rfl) op K
@[go_sem] theorem places_125 : placesT Try.prog 125 = some [(0, 1), (1, 1), (2, 1), (3, 1)] := by kernel_rfl
@[go_sem] theorem und_131 : Try.prog.underlying 131 = some (.array 2 3) := by kernel_rfl
@[go_sem] theorem info_131 : (Try.prog.info? 131).isSome = true := by kernel_rfl
@[go_sem] theorem cells_131 : Try.prog.cellsOf 131 = 2 := by kernel_rfl
@[go_sem] theorem agg_131 : isAggT Try.prog 131 = true := by kernel_rfl
@[go_sem] theorem flat_131 : flatTy Try.prog 131 = true := by kernel_rfl
@[go_sem] theorem zeroT_131 : zeroT Try.prog 131 = some [.d (.v (.int .i64 0)), .d (.v (.int .i64 0))] := by kernel_rfl
@[go_sem] theorem zeroD_131 : zeroD Try.prog 131 = some [.v (.int .i64 0), .v (.int .i64 0)] := by kernel_rfl
@[go_sem] theorem zrow_131 : zrow Try.prog 131 = [.v (.int .i64 0), .v (.int .i64 0)] := by kernel_rfl
@[go_sem] theorem places_131 : placesT Try.prog 131 = none := by kernel_rfl
@[go_sem] theorem arr_131 : arrT Try.prog 131 = some 1 := by kernel_rfl
@[go_sem] theorem und_132 : Try.prog.underlying 132 = some (.struct #[⟨"Inst", 3, 0, false, "", "", 0⟩, ⟨"Q", 2, 1, false, "", "", 8⟩]) := by kernel_rfl
@[go_sem] theorem info_132 : (Try.prog.info? 132).isSome = true := by kernel_rfl
@[go_sem] theorem cells_132 : Try.prog.cellsOf 132 = 2 := by kernel_rfl
@[go_sem] theorem agg_132 : isAggT Try.prog 132 = true := by kernel_rfl
@[go_sem] theorem flat_132 : flatTy Try.prog 132 = true := by kernel_rfl
@[go_sem] theorem zeroT_132 : zeroT Try.prog 132 = some [.d (.v (.int .i64 0)), .d (.v (.int .i64 0))] := by kernel_rfl
@[go_sem] theorem zeroD_132 : zeroD Try.prog 132 = some [.v (.int .i64 0), .v (.int .i64 0)] := by kernel_rfl
@[go_sem] theorem zrow_132 : zrow Try.prog 132 = [.v (.int .i64 0), .v (.int .i64 0)] := by kernel_rfl
@[go_sem] theorem eq_132 (op : BinOp) (x0 y0 : Int) (x1 y1 : Int) (K : Go.Ax.T → Prop) : eqAgg Try.prog op 132 [.v (.int .i64 x0), .v (.int .i64 x1)] [.v (.int .i64 y0), .v (.int .i64 y1)] K = match op with | .eql => K (.one (.v (.bool (x0 == y0 && x1 == y1)))) | .neq => K (.one (.v (.bool (!(x0 == y0 && x1 == y1))))) | _ => False :=
  eqAgg_deep und_132 (by kernel_rfl) (ks := [.int .i64, .int .i64]) (by kernel_rfl) (xs := [.int .i64 x0, .int .i64 x1]) (ys := [.int .i64 y0, .int .i64 y1]) (by kernel_rfl) (by kernel_rfl) op K
@[go_sem] theorem places_132 : placesT Try.prog 132 = some [(0, 1), (1, 1)] := by kernel_rfl
@[go_sem] theorem und_133 : Try.prog.underlying 133 = some (.struct #[⟨"Inst", 3, 0, false, "", "", 0⟩, ⟨"Q", 2, 1, false, "", "", 8⟩]) := by kernel_rfl
@[go_sem] theorem info_133 : (Try.prog.info? 133).isSome = true := by kernel_rfl
@[go_sem] theorem cells_133 : Try.prog.cellsOf 133 = 2 := by kernel_rfl
@[go_sem] theorem agg_133 : isAggT Try.prog 133 = true := by kernel_rfl
@[go_sem] theorem flat_133 : flatTy Try.prog 133 = true := by kernel_rfl
@[go_sem] theorem zeroT_133 : zeroT Try.prog 133 = some [.d (.v (.int .i64 0)), .d (.v (.int .i64 0))] := by kernel_rfl
@[go_sem] theorem zeroD_133 : zeroD Try.prog 133 = some [.v (.int .i64 0), .v (.int .i64 0)] := by kernel_rfl
@[go_sem] theorem zrow_133 : zrow Try.prog 133 = [.v (.int .i64 0), .v (.int .i64 0)] := by kernel_rfl
@[go_sem] theorem eq_133 (op : BinOp) (x0 y0 : Int) (x1 y1 : Int) (K : Go.Ax.T → Prop) : eqAgg Try.prog op 133 [.v (.int .i64 x0), .v (.int .i64 x1)] [.v (.int .i64 y0), .v (.int .i64 y1)] K = match op with | .eql => K (.one (.v (.bool (x0 == y0 && x1 == y1)))) | .neq => K (.one (.v (.bool (!(x0 == y0 && x1 == y1))))) | _ => False :=
  eqAgg_deep und_133 (by kernel_rfl) (ks := [.int .i64, .int .i64]) (by kernel_rfl) (xs := [.int .i64 x0, .int .i64 x1]) (ys := [.int .i64 y0, .int .i64 y1]) (by kernel_rfl) (by kernel_rfl) op K
@[go_sem] theorem places_133 : placesT Try.prog 133 = some [(0, 1), (1, 1)] := by kernel_rfl
@[go_sem] theorem und_134 : Try.prog.underlying 134 = some (.struct #[⟨"Inst", 3, 0, false, "", "", 0⟩, ⟨"Buy", 2, 1, false, "", "", 8⟩, ⟨"Sell", 2, 2, false, "", "", 16⟩]) := by kernel_rfl
@[go_sem] theorem info_134 : (Try.prog.info? 134).isSome = true := by kernel_rfl
@[go_sem] theorem cells_134 : Try.prog.cellsOf 134 = 3 := by kernel_rfl
@[go_sem] theorem agg_134 : isAggT Try.prog 134 = true := by kernel_rfl
@[go_sem] theorem flat_134 : flatTy Try.prog 134 = true := by kernel_rfl
@[go_sem] theorem zeroT_134 : zeroT Try.prog 134 = some [.d (.v (.int .i64 0)), .d (.v (.int .i64 0)), .d (.v (.int .i64 0))] := by kernel_rfl
@[go_sem] theorem zeroD_134 : zeroD Try.prog 134 = some [.v (.int .i64 0), .v (.int .i64 0), .v (.int .i64 0)] := by kernel_rfl
@[go_sem] theorem zrow_134 : zrow Try.prog 134 = [.v (.int .i64 0), .v (.int .i64 0), .v (.int .i64 0)] := by kernel_rfl
@[go_sem] theorem eq_134 (op : BinOp) (x0 y0 : Int) (x1 y1 : Int) (x2 y2 : Int) (K : Go.Ax.T → Prop) : eqAgg Try.prog op 134 [.v (.int .i64 x0), .v (.int .i64 x1), .v (.int .i64 x2)] [.v (.int .i64 y0), .v (.int .i64 y1), .v (.int .i64 y2)] K = match op with | .eql => K (.one (.v (.bool (x0 == y0 && (x1 == y1 && x2 == y2))))) | .neq => K (.one (.v (.bool (!(x0 == y0 && (x1 == y1 && x2 == y2)))))) | _ => False :=
  eqAgg_deep und_134 (by kernel_rfl) (ks := [.int .i64, .int .i64, .int .i64]) (by kernel_rfl) (xs := [.int .i64 x0, .int .i64 x1, .int .i64 x2]) (ys := [.int .i64 y0, .int .i64 y1, .int .i64 y2]) (by kernel_rfl) (by kernel_rfl) op K
@[go_sem] theorem places_134 : placesT Try.prog 134 = some [(0, 1), (1, 1), (2, 1)] := by kernel_rfl
@[go_sem] theorem und_135 : Try.prog.underlying 135 = some (.struct #[⟨"Inst", 3, 0, false, "", "", 0⟩, ⟨"Buy", 2, 1, false, "", "", 8⟩, ⟨"Sell", 2, 2, false, "", "", 16⟩]) := by kernel_rfl
@[go_sem] theorem info_135 : (Try.prog.info? 135).isSome = true := by kernel_rfl
@[go_sem] theorem cells_135 : Try.prog.cellsOf 135 = 3 := by kernel_rfl
@[go_sem] theorem agg_135 : isAggT Try.prog 135 = true := by kernel_rfl
@[go_sem] theorem flat_135 : flatTy Try.prog 135 = true := by kernel_rfl
@[go_sem] theorem zeroT_135 : zeroT Try.prog 135 = some [.d (.v (.int .i64 0)), .d (.v (.int .i64 0)), .d (.v (.int .i64 0))] := by kernel_rfl
@[go_sem] theorem zeroD_135 : zeroD Try.prog 135 = some [.v (.int .i64 0), .v (.int .i64 0), .v (.int .i64 0)] := by kernel_rfl
@[go_sem] theorem zrow_135 : zrow Try.prog 135 = [.v (.int .i64 0), .v (.int .i64 0), .v (.int .i64 0)] := by kernel_rfl
@[go_sem] theorem eq_135 (op : BinOp) (x0 y0 : Int) (x1 y1 : Int) (x2 y2 : Int) (K : Go.Ax.T → Prop) : eqAgg Try.prog op 135 [.v (.int .i64 x0), .v (.int .i64 x1), .v (.int .i64 x2)] [.v (.int .i64 y0), .v (.int .i64 y1), .v (.int .i64 y2)] K = match op with | .eql => K (.one (.v (.bool (x0 == y0 && (x1 == y1 && x2 == y2))))) | .neq => K (.one (.v (.bool (!(x0 == y0 && (x1 == y1 && x2 == y2)))))) | _ => False :=
  eqAgg_deep und_135 (by kernel_rfl) (ks := [.int .i64, .int .i64, .int .i64]) (by kernel_rfl) (xs := [.int .i64 x0, .int .i64 x1, .int .i64 x2]) (ys := [.int .i64 y0, .int .i64 y1, .int .i64 y2]) (by kernel_rfl) (by kernel_rfl) op K
@[go_sem] theorem places_135 : placesT Try.prog 135 = some [(0, 1), (1, 1), (2, 1)] := by kernel_rfl
@[go_sem] theorem und_158 : Try.prog.underlying 158 = some (.struct #[⟨"Acc", 3, 0, false, "", "", 0⟩, ⟨"Inst", 3, 1, false, "", "", 8⟩, ⟨"Q", 2, 2, false, "", "", 16⟩]) := by kernel_rfl
@[go_sem] theorem info_158 : (Try.prog.info? 158).isSome = true := by kernel_rfl
@[go_sem] theorem cells_158 : Try.prog.cellsOf 158 = 3 := by kernel_rfl
@[go_sem] theorem agg_158 : isAggT Try.prog 158 = true := by kernel_rfl
@[go_sem] theorem flat_158 : flatTy Try.prog 158 = true := by kernel_rfl
@[go_sem] theorem zeroT_158 : zeroT Try.prog 158 = some [.d (.v (.int .i64 0)), .d (.v (.int .i64 0)), .d (.v (.int .i64 0))] := by kernel_rfl
@[go_sem] theorem zeroD_158 : zeroD Try.prog 158 = some [.v (.int .i64 0), .v (.int .i64 0), .v (.int .i64 0)] := by kernel_rfl
@[go_sem] theorem zrow_158 : zrow Try.prog 158 = [.v (.int .i64 0), .v (.int .i64 0), .v (.int .i64 0)] := by kernel_rfl
@[go_sem] theorem eq_158 (op : BinOp) (x0 y0 : Int) (x1 y1 : Int) (x2 y2 : Int) (K : Go.Ax.T → Prop) : eqAgg Try.prog op 158 [.v (.int .i64 x0), .v (.int .i64 x1), .v (.int .i64 x2)] [.v (.int .i64 y0), .v (.int .i64 y1), .v (.int .i64 y2)] K = match op with | .eql => K (.one (.v (.bool (x0 == y0 && (x1 == y1 && x2 == y2))))) | .neq => K (.one (.v (.bool (!(x0 == y0 && (x1 == y1 && x2 == y2)))))) | _ => False :=
  eqAgg_deep und_158 (by kernel_rfl) (ks := [.int .i64, .int .i64, .int .i64]) (by kernel_rfl) (xs := [.int .i64 x0, .int .i64 x1, .int .i64 x2]) (ys := [.int .i64 y0, .int .i64 y1, .int .i64 y2]) (by kernel_rfl) (by kernel_rfl) op K
@[go_sem] theorem places_158 : placesT Try.prog 158 = some [(0, 1), (1, 1), (2, 1)] := by kernel_rfl
@[go_sem] theorem und_162 : Try.prog.underlying 162 = some (.int .u64) := by kernel_rfl
@[go_sem] theorem info_162 : (Try.prog.info? 162).isSome = true := by kernel_rfl
@[go_sem] theorem cells_162 : Try.prog.cellsOf 162 = 1 := by kernel_rfl
@[go_sem] theorem agg_162 : isAggT Try.prog 162 = false := by kernel_rfl
@[go_sem] theorem flat_162 : flatTy Try.prog 162 = true := by kernel_rfl
@[go_sem] theorem zeroT_162 : zeroT Try.prog 162 = some [.d (.v (.int .u64 0))] := by kernel_rfl
@[go_sem] theorem zeroD_162 : zeroD Try.prog 162 = some [.v (.int .u64 0)] := by kernel_rfl
@[go_sem] theorem zrow_162 : zrow Try.prog 162 = [.v (.int .u64 0)] := by kernel_rfl
@[go_sem] theorem und_182 : Try.prog.underlying 182 = some (.slice 76) := by kernel_rfl
@[go_sem] theorem info_182 : (Try.prog.info? 182).isSome = true := by kernel_rfl
@[go_sem] theorem cells_182 : Try.prog.cellsOf 182 = 1 := by kernel_rfl
@[go_sem] theorem agg_182 : isAggT Try.prog 182 = false := by kernel_rfl
@[go_sem] theorem flat_182 : flatTy Try.prog 182 = false := by kernel_rfl
@[go_sem] theorem zeroT_182 : zeroT Try.prog 182 = some [.own 0 []] := by kernel_rfl
@[go_sem] theorem zeroD_182 : zeroD Try.prog 182 = some [.l []] := by kernel_rfl
@[go_sem] theorem zrow_182 : zrow Try.prog 182 = [.l []] := by kernel_rfl
@[go_sem] theorem stride_182 : strideT Try.prog 182 = 2 := by kernel_rfl
@[go_sem] theorem elem_182 : elemT Try.prog 182 = some (76, 2, 32, [.v (.bool false), .l []]) := by kernel_rfl
@[go_sem] theorem und_195 : Try.prog.underlying 195 = some (.array 0 16) := by kernel_rfl
@[go_sem] theorem info_195 : (Try.prog.info? 195).isSome = true := by kernel_rfl
@[go_sem] theorem cells_195 : Try.prog.cellsOf 195 = 0 := by kernel_rfl
@[go_sem] theorem agg_195 : isAggT Try.prog 195 = true := by kernel_rfl
@[go_sem] theorem flat_195 : flatTy Try.prog 195 = true := by kernel_rfl
@[go_sem] theorem zeroT_195 : zeroT Try.prog 195 = some [] := by kernel_rfl
@[go_sem] theorem zeroD_195 : zeroD Try.prog 195 = some [] := by kernel_rfl
@[go_sem] theorem zrow_195 : zrow Try.prog 195 = [] := by kernel_rfl
@[go_sem] theorem places_195 : placesT Try.prog 195 = none := by kernel_rfl
@[go_sem] theorem arr_195 : arrT Try.prog 195 = some 1 := by kernel_rfl
@[go_sem] theorem und_200 : Try.prog.underlying 200 = some (.int .u8) := by kernel_rfl
@[go_sem] theorem info_200 : (Try.prog.info? 200).isSome = true := by kernel_rfl
@[go_sem] theorem cells_200 : Try.prog.cellsOf 200 = 1 := by kernel_rfl
@[go_sem] theorem agg_200 : isAggT Try.prog 200 = false := by kernel_rfl
@[go_sem] theorem flat_200 : flatTy Try.prog 200 = true := by kernel_rfl
@[go_sem] theorem zeroT_200 : zeroT Try.prog 200 = some [.d (.v (.int .u8 0))] := by kernel_rfl
@[go_sem] theorem zeroD_200 : zeroD Try.prog 200 = some [.v (.int .u8 0)] := by kernel_rfl
@[go_sem] theorem zrow_200 : zrow Try.prog 200 = [.v (.int .u8 0)] := by kernel_rfl
@[go_sem] theorem und_201 : Try.prog.underlying 201 = some (.int .u8) := by kernel_rfl
@[go_sem] theorem info_201 : (Try.prog.info? 201).isSome = true := by kernel_rfl
@[go_sem] theorem cells_201 : Try.prog.cellsOf 201 = 1 := by kernel_rfl
@[go_sem] theorem agg_201 : isAggT Try.prog 201 = false := by kernel_rfl
@[go_sem] theorem flat_201 : flatTy Try.prog 201 = true := by kernel_rfl
@[go_sem] theorem zeroT_201 : zeroT Try.prog 201 = some [.d (.v (.int .u8 0))] := by kernel_rfl
@[go_sem] theorem zeroD_201 : zeroD Try.prog 201 = some [.v (.int .u8 0)] := by kernel_rfl
@[go_sem] theorem zrow_201 : zrow Try.prog 201 = [.v (.int .u8 0)] := by kernel_rfl
@[go_sem] theorem und_206 : Try.prog.underlying 206 = some (.struct #[⟨"Size_", 12, 0, false, "", "", 0⟩, ⟨"PtrBytes", 12, 1, false, "", "", 8⟩, ⟨"Hash", 199, 2, false, "", "", 16⟩, ⟨"TFlag", 200, 3, false, "", "", 20⟩, ⟨"Align_", 5, 4, false, "", "", 21⟩, ⟨"FieldAlign_", 5, 5, false, "", "", 22⟩, ⟨"Kind_", 201, 6, false, "", "", 23⟩, ⟨"Equal", 202, 7, false, "", "", 24⟩, ⟨"GCData", 203, 8, false, "", "", 32⟩, ⟨"Str", 204, 9, false, "", "", 40⟩, ⟨"PtrToThis", 205, 10, false, "", "", 44⟩]) := by kernel_rfl
@[go_sem] theorem info_206 : (Try.prog.info? 206).isSome = true := by kernel_rfl
@[go_sem] theorem cells_206 : Try.prog.cellsOf 206 = 11 := by kernel_rfl
@[go_sem] theorem agg_206 : isAggT Try.prog 206 = true := by kernel_rfl
@[go_sem] theorem flat_206 : flatTy Try.prog 206 = false := by kernel_rfl
@[go_sem] theorem und_207 : Try.prog.underlying 207 = some (.struct #[⟨"Size_", 12, 0, false, "", "", 0⟩, ⟨"PtrBytes", 12, 1, false, "", "", 8⟩, ⟨"Hash", 199, 2, false, "", "", 16⟩, ⟨"TFlag", 200, 3, false, "", "", 20⟩, ⟨"Align_", 5, 4, false, "", "", 21⟩, ⟨"FieldAlign_", 5, 5, false, "", "", 22⟩, ⟨"Kind_", 201, 6, false, "", "", 23⟩, ⟨"Equal", 202, 7, false, "", "", 24⟩, ⟨"GCData", 203, 8, false, "", "", 32⟩, ⟨"Str", 204, 9, false, "", "", 40⟩, ⟨"PtrToThis", 205, 10, false, "", "", 44⟩]) := by kernel_rfl
@[go_sem] theorem info_207 : (Try.prog.info? 207).isSome = true := by kernel_rfl
@[go_sem] theorem cells_207 : Try.prog.cellsOf 207 = 11 := by kernel_rfl
@[go_sem] theorem agg_207 : isAggT Try.prog 207 = true := by kernel_rfl
@[go_sem] theorem flat_207 : flatTy Try.prog 207 = false := by kernel_rfl
@[go_sem] theorem flat_0 : flatTy Try.prog 0 = true := by kernel_rfl
@[go_sem] theorem info_0 : (Try.prog.info? 0).isSome = true := by kernel_rfl
@[go_sem] theorem flat_26 : flatTy Try.prog 26 = false := by kernel_rfl
@[go_sem] theorem info_26 : (Try.prog.info? 26).isSome = true := by kernel_rfl
@[go_sem] theorem flat_29 : flatTy Try.prog 29 = false := by kernel_rfl
@[go_sem] theorem info_29 : (Try.prog.info? 29).isSome = true := by kernel_rfl
@[go_sem] theorem flat_34 : flatTy Try.prog 34 = false := by kernel_rfl
@[go_sem] theorem info_34 : (Try.prog.info? 34).isSome = true := by kernel_rfl
@[go_sem] theorem flat_36 : flatTy Try.prog 36 = false := by kernel_rfl
@[go_sem] theorem info_36 : (Try.prog.info? 36).isSome = true := by kernel_rfl
@[go_sem] theorem flat_60 : flatTy Try.prog 60 = true := by kernel_rfl
@[go_sem] theorem info_60 : (Try.prog.info? 60).isSome = true := by kernel_rfl
@[go_sem] theorem flat_81 : flatTy Try.prog 81 = false := by kernel_rfl
@[go_sem] theorem info_81 : (Try.prog.info? 81).isSome = true := by kernel_rfl
@[go_sem] theorem flat_109 : flatTy Try.prog 109 = true := by kernel_rfl
@[go_sem] theorem info_109 : (Try.prog.info? 109).isSome = true := by kernel_rfl
@[go_sem] theorem flat_117 : flatTy Try.prog 117 = true := by kernel_rfl
@[go_sem] theorem info_117 : (Try.prog.info? 117).isSome = true := by kernel_rfl
@[go_sem] theorem flat_129 : flatTy Try.prog 129 = true := by kernel_rfl
@[go_sem] theorem info_129 : (Try.prog.info? 129).isSome = true := by kernel_rfl
@[go_sem] theorem flat_136 : flatTy Try.prog 136 = true := by kernel_rfl
@[go_sem] theorem info_136 : (Try.prog.info? 136).isSome = true := by kernel_rfl
@[go_sem] theorem flat_143 : flatTy Try.prog 143 = false := by kernel_rfl
@[go_sem] theorem info_143 : (Try.prog.info? 143).isSome = true := by kernel_rfl
@[go_sem] theorem flat_153 : flatTy Try.prog 153 = false := by kernel_rfl
@[go_sem] theorem info_153 : (Try.prog.info? 153).isSome = true := by kernel_rfl
@[go_sem] theorem flat_156 : flatTy Try.prog 156 = false := by kernel_rfl
@[go_sem] theorem info_156 : (Try.prog.info? 156).isSome = true := by kernel_rfl
@[go_sem] theorem flat_183 : flatTy Try.prog 183 = false := by kernel_rfl
@[go_sem] theorem info_183 : (Try.prog.info? 183).isSome = true := by kernel_rfl
@[go_sem] theorem mixed : Try.prog.follows .mixedOrders = true := by kernel_rfl
end Go.Ax
