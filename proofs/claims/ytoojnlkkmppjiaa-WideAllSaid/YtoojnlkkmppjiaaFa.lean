/- The facts about the types of the program, out of facts.py. -/
import Derived.Test.YtoojnlkkmppjiaaProg
import Derived.KernelRfl
import Derived.Test.YtoojnlkkmppjiaaLibB
import Derived.Test.YtoojnlkkmppjiaaEqs
set_option linter.unusedVariables false
set_option linter.unusedSimpArgs false
set_option maxRecDepth 100000
namespace Go.Ax
open Go Go.Proofs
@[go_sem] theorem und_2 : Try.prog.underlying 2 = some (.int .i64) := by kernel_rfl
@[go_sem] theorem info_2 : (Try.prog.info? 2).isSome = true := by kernel_rfl
@[go_sem] theorem cells_2 : Try.prog.cellsOf 2 = 1 := by kernel_rfl
@[go_sem] theorem agg_2 : isAggT Try.prog 2 = false := by kernel_rfl
@[go_sem] theorem flat_2 : flatTy Try.prog 2 = true := by kernel_rfl
@[go_sem] theorem zeroT_2 : zeroT Try.prog 2 = some [.d (.v (.int .i64 0))] := by kernel_rfl
@[go_sem] theorem zeroD_2 : zeroD Try.prog 2 = some [.v (.int .i64 0)] := by kernel_rfl
@[go_sem] theorem zrow_2 : zrow Try.prog 2 = [.v (.int .i64 0)] := by kernel_rfl
@[go_sem] theorem und_3 : Try.prog.underlying 3 = some (.int .i64) := by kernel_rfl
@[go_sem] theorem info_3 : (Try.prog.info? 3).isSome = true := by kernel_rfl
@[go_sem] theorem cells_3 : Try.prog.cellsOf 3 = 1 := by kernel_rfl
@[go_sem] theorem agg_3 : isAggT Try.prog 3 = false := by kernel_rfl
@[go_sem] theorem flat_3 : flatTy Try.prog 3 = true := by kernel_rfl
@[go_sem] theorem zeroT_3 : zeroT Try.prog 3 = some [.d (.v (.int .i64 0))] := by kernel_rfl
@[go_sem] theorem zeroD_3 : zeroD Try.prog 3 = some [.v (.int .i64 0)] := by kernel_rfl
@[go_sem] theorem zrow_3 : zrow Try.prog 3 = [.v (.int .i64 0)] := by kernel_rfl
@[go_sem] theorem und_4 : Try.prog.underlying 4 = some (.bool) := by kernel_rfl
@[go_sem] theorem info_4 : (Try.prog.info? 4).isSome = true := by kernel_rfl
@[go_sem] theorem cells_4 : Try.prog.cellsOf 4 = 1 := by kernel_rfl
@[go_sem] theorem agg_4 : isAggT Try.prog 4 = false := by kernel_rfl
@[go_sem] theorem flat_4 : flatTy Try.prog 4 = true := by kernel_rfl
@[go_sem] theorem zeroT_4 : zeroT Try.prog 4 = some [.d (.v (.bool false))] := by kernel_rfl
@[go_sem] theorem zeroD_4 : zeroD Try.prog 4 = some [.v (.bool false)] := by kernel_rfl
@[go_sem] theorem zrow_4 : zrow Try.prog 4 = [.v (.bool false)] := by kernel_rfl
@[go_sem] theorem und_5 : Try.prog.underlying 5 = some (.int .u8) := by kernel_rfl
@[go_sem] theorem info_5 : (Try.prog.info? 5).isSome = true := by kernel_rfl
@[go_sem] theorem cells_5 : Try.prog.cellsOf 5 = 1 := by kernel_rfl
@[go_sem] theorem agg_5 : isAggT Try.prog 5 = false := by kernel_rfl
@[go_sem] theorem flat_5 : flatTy Try.prog 5 = true := by kernel_rfl
@[go_sem] theorem zeroT_5 : zeroT Try.prog 5 = some [.d (.v (.int .u8 0))] := by kernel_rfl
@[go_sem] theorem zeroD_5 : zeroD Try.prog 5 = some [.v (.int .u8 0)] := by kernel_rfl
@[go_sem] theorem zrow_5 : zrow Try.prog 5 = [.v (.int .u8 0)] := by kernel_rfl
@[go_sem] theorem und_9 : Try.prog.underlying 9 = some (.string) := by kernel_rfl
@[go_sem] theorem info_9 : (Try.prog.info? 9).isSome = true := by kernel_rfl
@[go_sem] theorem cells_9 : Try.prog.cellsOf 9 = 1 := by kernel_rfl
@[go_sem] theorem agg_9 : isAggT Try.prog 9 = false := by kernel_rfl
@[go_sem] theorem flat_9 : flatTy Try.prog 9 = false := by kernel_rfl
@[go_sem] theorem und_23 : Try.prog.underlying 23 = some (.slice 30) := by kernel_rfl
@[go_sem] theorem info_23 : (Try.prog.info? 23).isSome = true := by kernel_rfl
@[go_sem] theorem cells_23 : Try.prog.cellsOf 23 = 1 := by kernel_rfl
@[go_sem] theorem agg_23 : isAggT Try.prog 23 = false := by kernel_rfl
@[go_sem] theorem flat_23 : flatTy Try.prog 23 = false := by kernel_rfl
@[go_sem] theorem zeroT_23 : zeroT Try.prog 23 = some [.own 0 []] := by kernel_rfl
@[go_sem] theorem zeroD_23 : zeroD Try.prog 23 = some [.l []] := by kernel_rfl
@[go_sem] theorem zrow_23 : zrow Try.prog 23 = [.l []] := by kernel_rfl
@[go_sem] theorem stride_23 : strideT Try.prog 23 = 1 := by kernel_rfl
@[go_sem] theorem elem_23 : elemT Try.prog 23 = some (30, 1, 8, [.v (.int .u64 0)]) := by kernel_rfl
@[go_sem] theorem und_24 : Try.prog.underlying 24 = some (.struct #[⟨"Neg", 4, 0, false, "", "", 0⟩, ⟨"D", 23, 1, false, "", "", 8⟩]) := by kernel_rfl
@[go_sem] theorem info_24 : (Try.prog.info? 24).isSome = true := by kernel_rfl
@[go_sem] theorem cells_24 : Try.prog.cellsOf 24 = 2 := by kernel_rfl
@[go_sem] theorem agg_24 : isAggT Try.prog 24 = true := by kernel_rfl
@[go_sem] theorem flat_24 : flatTy Try.prog 24 = false := by kernel_rfl
@[go_sem] theorem zeroT_24 : zeroT Try.prog 24 = some [.d (.v (.bool false)), .own 0 []] := by kernel_rfl
@[go_sem] theorem zeroD_24 : zeroD Try.prog 24 = some [.v (.bool false), .l []] := by kernel_rfl
@[go_sem] theorem zrow_24 : zrow Try.prog 24 = [.v (.bool false), .l []] := by kernel_rfl
@[go_sem] theorem places_24 : placesT Try.prog 24 = some [(0, 1), (1, 1)] := by kernel_rfl
@[go_sem] theorem und_25 : Try.prog.underlying 25 = some (.struct #[⟨"Neg", 4, 0, false, "", "", 0⟩, ⟨"D", 23, 1, false, "", "", 8⟩]) := by kernel_rfl
@[go_sem] theorem info_25 : (Try.prog.info? 25).isSome = true := by kernel_rfl
@[go_sem] theorem cells_25 : Try.prog.cellsOf 25 = 2 := by kernel_rfl
@[go_sem] theorem agg_25 : isAggT Try.prog 25 = true := by kernel_rfl
@[go_sem] theorem flat_25 : flatTy Try.prog 25 = false := by kernel_rfl
@[go_sem] theorem zeroT_25 : zeroT Try.prog 25 = some [.d (.v (.bool false)), .own 0 []] := by kernel_rfl
@[go_sem] theorem zeroD_25 : zeroD Try.prog 25 = some [.v (.bool false), .l []] := by kernel_rfl
@[go_sem] theorem zrow_25 : zrow Try.prog 25 = [.v (.bool false), .l []] := by kernel_rfl
@[go_sem] theorem places_25 : placesT Try.prog 25 = some [(0, 1), (1, 1)] := by kernel_rfl
@[go_sem] theorem flat_27 : flatTy Try.prog 27 = true := by kernel_rfl
@[go_sem] theorem info_27 : (Try.prog.info? 27).isSome = true := by kernel_rfl
@[go_sem] theorem und_30 : Try.prog.underlying 30 = some (.int .u64) := by kernel_rfl
@[go_sem] theorem info_30 : (Try.prog.info? 30).isSome = true := by kernel_rfl
@[go_sem] theorem cells_30 : Try.prog.cellsOf 30 = 1 := by kernel_rfl
@[go_sem] theorem agg_30 : isAggT Try.prog 30 = false := by kernel_rfl
@[go_sem] theorem flat_30 : flatTy Try.prog 30 = true := by kernel_rfl
@[go_sem] theorem zeroT_30 : zeroT Try.prog 30 = some [.d (.v (.int .u64 0))] := by kernel_rfl
@[go_sem] theorem zeroD_30 : zeroD Try.prog 30 = some [.v (.int .u64 0)] := by kernel_rfl
@[go_sem] theorem zrow_30 : zrow Try.prog 30 = [.v (.int .u64 0)] := by kernel_rfl
@[go_sem] theorem und_36 : Try.prog.underlying 36 = some (.slice 2) := by kernel_rfl
@[go_sem] theorem info_36 : (Try.prog.info? 36).isSome = true := by kernel_rfl
@[go_sem] theorem cells_36 : Try.prog.cellsOf 36 = 1 := by kernel_rfl
@[go_sem] theorem agg_36 : isAggT Try.prog 36 = false := by kernel_rfl
@[go_sem] theorem flat_36 : flatTy Try.prog 36 = false := by kernel_rfl
@[go_sem] theorem zeroT_36 : zeroT Try.prog 36 = some [.own 0 []] := by kernel_rfl
@[go_sem] theorem zeroD_36 : zeroD Try.prog 36 = some [.l []] := by kernel_rfl
@[go_sem] theorem zrow_36 : zrow Try.prog 36 = [.l []] := by kernel_rfl
@[go_sem] theorem stride_36 : strideT Try.prog 36 = 1 := by kernel_rfl
@[go_sem] theorem elem_36 : elemT Try.prog 36 = some (2, 1, 8, [.v (.int .i64 0)]) := by kernel_rfl
@[go_sem] theorem flat_38 : flatTy Try.prog 38 = true := by kernel_rfl
@[go_sem] theorem info_38 : (Try.prog.info? 38).isSome = true := by kernel_rfl
@[go_sem] theorem und_43 : Try.prog.underlying 43 = some (.struct #[⟨"Hi", 2, 0, false, "", "", 0⟩, ⟨"Lo", 30, 1, false, "", "", 8⟩]) := by kernel_rfl
@[go_sem] theorem info_43 : (Try.prog.info? 43).isSome = true := by kernel_rfl
@[go_sem] theorem cells_43 : Try.prog.cellsOf 43 = 2 := by kernel_rfl
@[go_sem] theorem agg_43 : isAggT Try.prog 43 = true := by kernel_rfl
@[go_sem] theorem flat_43 : flatTy Try.prog 43 = true := by kernel_rfl
@[go_sem] theorem zeroT_43 : zeroT Try.prog 43 = some [.d (.v (.int .i64 0)), .d (.v (.int .u64 0))] := by kernel_rfl
@[go_sem] theorem zeroD_43 : zeroD Try.prog 43 = some [.v (.int .i64 0), .v (.int .u64 0)] := by kernel_rfl
@[go_sem] theorem zrow_43 : zrow Try.prog 43 = [.v (.int .i64 0), .v (.int .u64 0)] := by kernel_rfl
@[go_sem] theorem eq_43 (op : BinOp) (x0 y0 : Int) (x1 y1 : Int) (K : Go.Ax.T → Prop) : eqAgg Try.prog op 43 [.v (.int .i64 x0), .v (.int .u64 x1)] [.v (.int .i64 y0), .v (.int .u64 y1)] K = match op with | .eql => K (.one (.v (.bool (x0 == y0 && x1 == y1)))) | .neq => K (.one (.v (.bool (!(x0 == y0 && x1 == y1))))) | _ => False :=
  eqAgg_flat und_43 (by kernel_rfl) (by kernel_rfl) (by kernel_rfl) (xs := [.int .i64 x0, .int .u64 x1]) (ys := [.int .i64 y0, .int .u64 y1]) (by kernel_rfl) (by kernel_rfl) op K
@[go_sem] theorem places_43 : placesT Try.prog 43 = some [(0, 1), (1, 1)] := by kernel_rfl
@[go_sem] theorem und_44 : Try.prog.underlying 44 = some (.struct #[⟨"Hi", 2, 0, false, "", "", 0⟩, ⟨"Lo", 30, 1, false, "", "", 8⟩]) := by kernel_rfl
@[go_sem] theorem info_44 : (Try.prog.info? 44).isSome = true := by kernel_rfl
@[go_sem] theorem cells_44 : Try.prog.cellsOf 44 = 2 := by kernel_rfl
@[go_sem] theorem agg_44 : isAggT Try.prog 44 = true := by kernel_rfl
@[go_sem] theorem flat_44 : flatTy Try.prog 44 = true := by kernel_rfl
@[go_sem] theorem zeroT_44 : zeroT Try.prog 44 = some [.d (.v (.int .i64 0)), .d (.v (.int .u64 0))] := by kernel_rfl
@[go_sem] theorem zeroD_44 : zeroD Try.prog 44 = some [.v (.int .i64 0), .v (.int .u64 0)] := by kernel_rfl
@[go_sem] theorem zrow_44 : zrow Try.prog 44 = [.v (.int .i64 0), .v (.int .u64 0)] := by kernel_rfl
@[go_sem] theorem eq_44 (op : BinOp) (x0 y0 : Int) (x1 y1 : Int) (K : Go.Ax.T → Prop) : eqAgg Try.prog op 44 [.v (.int .i64 x0), .v (.int .u64 x1)] [.v (.int .i64 y0), .v (.int .u64 y1)] K = match op with | .eql => K (.one (.v (.bool (x0 == y0 && x1 == y1)))) | .neq => K (.one (.v (.bool (!(x0 == y0 && x1 == y1))))) | _ => False :=
  eqAgg_flat und_44 (by kernel_rfl) (by kernel_rfl) (by kernel_rfl) (xs := [.int .i64 x0, .int .u64 x1]) (ys := [.int .i64 y0, .int .u64 y1]) (by kernel_rfl) (by kernel_rfl) op K
@[go_sem] theorem places_44 : placesT Try.prog 44 = some [(0, 1), (1, 1)] := by kernel_rfl
@[go_sem] theorem flat_46 : flatTy Try.prog 46 = true := by kernel_rfl
@[go_sem] theorem info_46 : (Try.prog.info? 46).isSome = true := by kernel_rfl
@[go_sem] theorem und_60 : Try.prog.underlying 60 = some (.slice 44) := by kernel_rfl
@[go_sem] theorem info_60 : (Try.prog.info? 60).isSome = true := by kernel_rfl
@[go_sem] theorem cells_60 : Try.prog.cellsOf 60 = 1 := by kernel_rfl
@[go_sem] theorem agg_60 : isAggT Try.prog 60 = false := by kernel_rfl
@[go_sem] theorem flat_60 : flatTy Try.prog 60 = false := by kernel_rfl
@[go_sem] theorem zeroT_60 : zeroT Try.prog 60 = some [.own 0 []] := by kernel_rfl
@[go_sem] theorem zeroD_60 : zeroD Try.prog 60 = some [.l []] := by kernel_rfl
@[go_sem] theorem zrow_60 : zrow Try.prog 60 = [.l []] := by kernel_rfl
@[go_sem] theorem stride_60 : strideT Try.prog 60 = 2 := by kernel_rfl
@[go_sem] theorem elem_60 : elemT Try.prog 60 = some (44, 2, 16, [.v (.int .i64 0), .v (.int .u64 0)]) := by kernel_rfl
@[go_sem] theorem flat_63 : flatTy Try.prog 63 = true := by kernel_rfl
@[go_sem] theorem info_63 : (Try.prog.info? 63).isSome = true := by kernel_rfl
@[go_sem] theorem flat_65 : flatTy Try.prog 65 = true := by kernel_rfl
@[go_sem] theorem info_65 : (Try.prog.info? 65).isSome = true := by kernel_rfl
@[go_sem] theorem flat_73 : flatTy Try.prog 73 = true := by kernel_rfl
@[go_sem] theorem info_73 : (Try.prog.info? 73).isSome = true := by kernel_rfl
@[go_sem] theorem und_78 : Try.prog.underlying 78 = some (.int .u64) := by kernel_rfl
@[go_sem] theorem info_78 : (Try.prog.info? 78).isSome = true := by kernel_rfl
@[go_sem] theorem cells_78 : Try.prog.cellsOf 78 = 1 := by kernel_rfl
@[go_sem] theorem agg_78 : isAggT Try.prog 78 = false := by kernel_rfl
@[go_sem] theorem flat_78 : flatTy Try.prog 78 = true := by kernel_rfl
@[go_sem] theorem zeroT_78 : zeroT Try.prog 78 = some [.d (.v (.int .u64 0))] := by kernel_rfl
@[go_sem] theorem zeroD_78 : zeroD Try.prog 78 = some [.v (.int .u64 0)] := by kernel_rfl
@[go_sem] theorem zrow_78 : zrow Try.prog 78 = [.v (.int .u64 0)] := by kernel_rfl
@[go_sem] theorem flat_83 : flatTy Try.prog 83 = true := by kernel_rfl
@[go_sem] theorem info_83 : (Try.prog.info? 83).isSome = true := by kernel_rfl
@[go_sem] theorem mixed : Try.prog.follows .mixedOrders = true := by kernel_rfl
end Go.Ax
