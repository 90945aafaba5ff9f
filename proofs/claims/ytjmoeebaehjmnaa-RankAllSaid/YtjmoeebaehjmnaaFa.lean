/- The facts about the types of the program, out of facts.py. -/
import Derived.Test.YtjmoeebaehjmnaaProg
import Derived.KernelRfl
import Derived.Test.YtjmoeebaehjmnaaLibB
import Derived.Test.YtjmoeebaehjmnaaEqs
set_option linter.unusedVariables false
set_option linter.unusedSimpArgs false
set_option maxRecDepth 100000
namespace Go.Ax
open Go Go.Proofs
@[go_sem] theorem und_2 : Try.prog.underlying 2 = some (.int .i64) := by kernel_rfl
@[go_sem] theorem info_2 : (Try.prog.info? 2).isSome = true := by kernel_rfl
@[go_sem] theorem cells_2 : Try.prog.cellsOf 2 = 1 := by kernel_rfl
@[go_sem] theorem agg_2 : isAggT Try.prog 2 = false := by kernel_rfl
@[go_sem] theorem flat_2 : flatTy Try.prog 2 = true := by kernel_rfl
@[go_sem] theorem zeroT_2 : zeroT Try.prog 2 = some [.d (.v (.int .i64 0))] := by kernel_rfl
@[go_sem] theorem zeroD_2 : zeroD Try.prog 2 = some [.v (.int .i64 0)] := by kernel_rfl
@[go_sem] theorem zrow_2 : zrow Try.prog 2 = [.v (.int .i64 0)] := by kernel_rfl
@[go_sem] theorem und_3 : Try.prog.underlying 3 = some (.int .i64) := by kernel_rfl
@[go_sem] theorem info_3 : (Try.prog.info? 3).isSome = true := by kernel_rfl
@[go_sem] theorem cells_3 : Try.prog.cellsOf 3 = 1 := by kernel_rfl
@[go_sem] theorem agg_3 : isAggT Try.prog 3 = false := by kernel_rfl
@[go_sem] theorem flat_3 : flatTy Try.prog 3 = true := by kernel_rfl
@[go_sem] theorem zeroT_3 : zeroT Try.prog 3 = some [.d (.v (.int .i64 0))] := by kernel_rfl
@[go_sem] theorem zeroD_3 : zeroD Try.prog 3 = some [.v (.int .i64 0)] := by kernel_rfl
@[go_sem] theorem zrow_3 : zrow Try.prog 3 = [.v (.int .i64 0)] := by kernel_rfl
@[go_sem] theorem und_4 : Try.prog.underlying 4 = some (.bool) := by kernel_rfl
@[go_sem] theorem info_4 : (Try.prog.info? 4).isSome = true := by kernel_rfl
@[go_sem] theorem cells_4 : Try.prog.cellsOf 4 = 1 := by kernel_rfl
@[go_sem] theorem agg_4 : isAggT Try.prog 4 = false := by kernel_rfl
@[go_sem] theorem flat_4 : flatTy Try.prog 4 = true := by kernel_rfl
@[go_sem] theorem zeroT_4 : zeroT Try.prog 4 = some [.d (.v (.bool false))] := by kernel_rfl
@[go_sem] theorem zeroD_4 : zeroD Try.prog 4 = some [.v (.bool false)] := by kernel_rfl
@[go_sem] theorem zrow_4 : zrow Try.prog 4 = [.v (.bool false)] := by kernel_rfl
@[go_sem] theorem und_12 : Try.prog.underlying 12 = some (.int .u64) := by kernel_rfl
@[go_sem] theorem info_12 : (Try.prog.info? 12).isSome = true := by kernel_rfl
@[go_sem] theorem cells_12 : Try.prog.cellsOf 12 = 1 := by kernel_rfl
@[go_sem] theorem agg_12 : isAggT Try.prog 12 = false := by kernel_rfl
@[go_sem] theorem flat_12 : flatTy Try.prog 12 = true := by kernel_rfl
@[go_sem] theorem zeroT_12 : zeroT Try.prog 12 = some [.d (.v (.int .u64 0))] := by kernel_rfl
@[go_sem] theorem zeroD_12 : zeroD Try.prog 12 = some [.v (.int .u64 0)] := by kernel_rfl
@[go_sem] theorem zrow_12 : zrow Try.prog 12 = [.v (.int .u64 0)] := by kernel_rfl
@[go_sem] theorem und_22 : Try.prog.underlying 22 = some (.slice 70) := by kernel_rfl
@[go_sem] theorem info_22 : (Try.prog.info? 22).isSome = true := by kernel_rfl
@[go_sem] theorem cells_22 : Try.prog.cellsOf 22 = 1 := by kernel_rfl
@[go_sem] theorem agg_22 : isAggT Try.prog 22 = false := by kernel_rfl
@[go_sem] theorem flat_22 : flatTy Try.prog 22 = false := by kernel_rfl
@[go_sem] theorem zeroT_22 : zeroT Try.prog 22 = some [.own 0 []] := by kernel_rfl
@[go_sem] theorem zeroD_22 : zeroD Try.prog 22 = some [.l []] := by kernel_rfl
@[go_sem] theorem zrow_22 : zrow Try.prog 22 = [.l []] := by kernel_rfl
@[go_sem] theorem stride_22 : strideT Try.prog 22 = 4 := by kernel_rfl
@[go_sem] theorem elem_22 : elemT Try.prog 22 = some (70, 4, 32, [.v (.int .i64 0), .v (.int .i64 0), .v (.int .i64 0), .v (.int .i64 0)]) := by kernel_rfl
@[go_sem] theorem und_23 : Try.prog.underlying 23 = some (.struct #[⟨"Insts", 22, 0, false, "", "", 0⟩, ⟨"Skin", 2, 1, false, "", "", 24⟩, ⟨"Times", 3, 2, false, "", "", 32⟩, ⟨"Port", 2, 3, false, "", "", 40⟩, ⟨"Bid", 2, 4, false, "", "", 48⟩, ⟨"LotSize", 2, 5, false, "", "", 56⟩, ⟨"HedgeMin", 2, 6, false, "", "", 64⟩]) := by kernel_rfl
@[go_sem] theorem info_23 : (Try.prog.info? 23).isSome = true := by kernel_rfl
@[go_sem] theorem cells_23 : Try.prog.cellsOf 23 = 7 := by kernel_rfl
@[go_sem] theorem agg_23 : isAggT Try.prog 23 = true := by kernel_rfl
@[go_sem] theorem flat_23 : flatTy Try.prog 23 = false := by kernel_rfl
@[go_sem] theorem zeroT_23 : zeroT Try.prog 23 = some [.own 0 [], .d (.v (.int .i64 0)), .d (.v (.int .i64 0)), .d (.v (.int .i64 0)), .d (.v (.int .i64 0)), .d (.v (.int .i64 0)), .d (.v (.int .i64 0))] := by kernel_rfl
@[go_sem] theorem zeroD_23 : zeroD Try.prog 23 = some [.l [], .v (.int .i64 0), .v (.int .i64 0), .v (.int .i64 0), .v (.int .i64 0), .v (.int .i64 0), .v (.int .i64 0)] := by kernel_rfl
@[go_sem] theorem zrow_23 : zrow Try.prog 23 = [.l [], .v (.int .i64 0), .v (.int .i64 0), .v (.int .i64 0), .v (.int .i64 0), .v (.int .i64 0), .v (.int .i64 0)] := by kernel_rfl
@[go_sem] theorem places_23 : placesT Try.prog 23 = some [(0, 1), (1, 1), (2, 1), (3, 1), (4, 1), (5, 1), (6, 1)] := by kernel_rfl
@[go_sem] theorem und_24 : Try.prog.underlying 24 = some (.struct #[⟨"Insts", 22, 0, false, "", "", 0⟩, ⟨"Skin", 2, 1, false, "", "", 24⟩, ⟨"Times", 3, 2, false, "", "", 32⟩, ⟨"Port", 2, 3, false, "", "", 40⟩, ⟨"Bid", 2, 4, false, "", "", 48⟩, ⟨"LotSize", 2, 5, false, "", "", 56⟩, ⟨"HedgeMin", 2, 6, false, "", "", 64⟩]) := by kernel_rfl
@[go_sem] theorem info_24 : (Try.prog.info? 24).isSome = true := by kernel_rfl
@[go_sem] theorem cells_24 : Try.prog.cellsOf 24 = 7 := by kernel_rfl
@[go_sem] theorem agg_24 : isAggT Try.prog 24 = true := by kernel_rfl
@[go_sem] theorem flat_24 : flatTy Try.prog 24 = false := by kernel_rfl
@[go_sem] theorem zeroT_24 : zeroT Try.prog 24 = some [.own 0 [], .d (.v (.int .i64 0)), .d (.v (.int .i64 0)), .d (.v (.int .i64 0)), .d (.v (.int .i64 0)), .d (.v (.int .i64 0)), .d (.v (.int .i64 0))] := by kernel_rfl
@[go_sem] theorem zeroD_24 : zeroD Try.prog 24 = some [.l [], .v (.int .i64 0), .v (.int .i64 0), .v (.int .i64 0), .v (.int .i64 0), .v (.int .i64 0), .v (.int .i64 0)] := by kernel_rfl
@[go_sem] theorem zrow_24 : zrow Try.prog 24 = [.l [], .v (.int .i64 0), .v (.int .i64 0), .v (.int .i64 0), .v (.int .i64 0), .v (.int .i64 0), .v (.int .i64 0)] := by kernel_rfl
@[go_sem] theorem places_24 : placesT Try.prog 24 = some [(0, 1), (1, 1), (2, 1), (3, 1), (4, 1), (5, 1), (6, 1)] := by kernel_rfl
@[go_sem] theorem und_25 : Try.prog.underlying 25 = some (.slice 72) := by kernel_rfl
@[go_sem] theorem info_25 : (Try.prog.info? 25).isSome = true := by kernel_rfl
@[go_sem] theorem cells_25 : Try.prog.cellsOf 25 = 1 := by kernel_rfl
@[go_sem] theorem agg_25 : isAggT Try.prog 25 = false := by kernel_rfl
@[go_sem] theorem flat_25 : flatTy Try.prog 25 = false := by kernel_rfl
@[go_sem] theorem zeroT_25 : zeroT Try.prog 25 = some [.own 0 []] := by kernel_rfl
@[go_sem] theorem zeroD_25 : zeroD Try.prog 25 = some [.l []] := by kernel_rfl
@[go_sem] theorem zrow_25 : zrow Try.prog 25 = [.l []] := by kernel_rfl
@[go_sem] theorem stride_25 : strideT Try.prog 25 = 2 := by kernel_rfl
@[go_sem] theorem elem_25 : elemT Try.prog 25 = some (72, 2, 16, [.v (.int .i64 0), .v (.int .i64 0)]) := by kernel_rfl
@[go_sem] theorem und_26 : Try.prog.underlying 26 = some (.slice 92) := by kernel_rfl
@[go_sem] theorem info_26 : (Try.prog.info? 26).isSome = true := by kernel_rfl
@[go_sem] theorem cells_26 : Try.prog.cellsOf 26 = 1 := by kernel_rfl
@[go_sem] theorem agg_26 : isAggT Try.prog 26 = false := by kernel_rfl
@[go_sem] theorem flat_26 : flatTy Try.prog 26 = false := by kernel_rfl
@[go_sem] theorem zeroT_26 : zeroT Try.prog 26 = some [.own 0 []] := by kernel_rfl
@[go_sem] theorem zeroD_26 : zeroD Try.prog 26 = some [.l []] := by kernel_rfl
@[go_sem] theorem zrow_26 : zrow Try.prog 26 = [.l []] := by kernel_rfl
@[go_sem] theorem stride_26 : strideT Try.prog 26 = 4 := by kernel_rfl
@[go_sem] theorem elem_26 : elemT Try.prog 26 = some (92, 4, 32, [.v (.int .i64 0), .v (.int .i64 0), .v (.int .i64 0), .v (.int .i64 0)]) := by kernel_rfl
@[go_sem] theorem und_27 : Try.prog.underlying 27 = some (.slice 74) := by kernel_rfl
@[go_sem] theorem info_27 : (Try.prog.info? 27).isSome = true := by kernel_rfl
@[go_sem] theorem cells_27 : Try.prog.cellsOf 27 = 1 := by kernel_rfl
@[go_sem] theorem agg_27 : isAggT Try.prog 27 = false := by kernel_rfl
@[go_sem] theorem flat_27 : flatTy Try.prog 27 = false := by kernel_rfl
@[go_sem] theorem zeroT_27 : zeroT Try.prog 27 = some [.own 0 []] := by kernel_rfl
@[go_sem] theorem zeroD_27 : zeroD Try.prog 27 = some [.l []] := by kernel_rfl
@[go_sem] theorem zrow_27 : zrow Try.prog 27 = [.l []] := by kernel_rfl
@[go_sem] theorem stride_27 : strideT Try.prog 27 = 3 := by kernel_rfl
@[go_sem] theorem elem_27 : elemT Try.prog 27 = some (74, 3, 24, [.v (.int .i64 0), .v (.int .i64 0), .v (.int .i64 0)]) := by kernel_rfl
@[go_sem] theorem und_28 : Try.prog.underlying 28 = some (.slice 128) := by kernel_rfl
@[go_sem] theorem info_28 : (Try.prog.info? 28).isSome = true := by kernel_rfl
@[go_sem] theorem cells_28 : Try.prog.cellsOf 28 = 1 := by kernel_rfl
@[go_sem] theorem agg_28 : isAggT Try.prog 28 = false := by kernel_rfl
@[go_sem] theorem flat_28 : flatTy Try.prog 28 = false := by kernel_rfl
@[go_sem] theorem zeroT_28 : zeroT Try.prog 28 = some [.own 0 []] := by kernel_rfl
@[go_sem] theorem zeroD_28 : zeroD Try.prog 28 = some [.l []] := by kernel_rfl
@[go_sem] theorem zrow_28 : zrow Try.prog 28 = [.l []] := by kernel_rfl
@[go_sem] theorem stride_28 : strideT Try.prog 28 = 3 := by kernel_rfl
@[go_sem] theorem elem_28 : elemT Try.prog 28 = some (128, 3, 24, [.v (.int .i64 0), .v (.int .i64 0), .v (.int .i64 0)]) := by kernel_rfl
@[go_sem] theorem und_29 : Try.prog.underlying 29 = some (.slice 2) := by kernel_rfl
@[go_sem] theorem info_29 : (Try.prog.info? 29).isSome = true := by kernel_rfl
@[go_sem] theorem cells_29 : Try.prog.cellsOf 29 = 1 := by kernel_rfl
@[go_sem] theorem agg_29 : isAggT Try.prog 29 = false := by kernel_rfl
@[go_sem] theorem flat_29 : flatTy Try.prog 29 = false := by kernel_rfl
@[go_sem] theorem zeroT_29 : zeroT Try.prog 29 = some [.own 0 []] := by kernel_rfl
@[go_sem] theorem zeroD_29 : zeroD Try.prog 29 = some [.l []] := by kernel_rfl
@[go_sem] theorem zrow_29 : zrow Try.prog 29 = [.l []] := by kernel_rfl
@[go_sem] theorem stride_29 : strideT Try.prog 29 = 1 := by kernel_rfl
@[go_sem] theorem elem_29 : elemT Try.prog 29 = some (2, 1, 8, [.v (.int .i64 0)]) := by kernel_rfl
@[go_sem] theorem und_30 : Try.prog.underlying 30 = some (.slice 130) := by kernel_rfl
@[go_sem] theorem info_30 : (Try.prog.info? 30).isSome = true := by kernel_rfl
@[go_sem] theorem cells_30 : Try.prog.cellsOf 30 = 1 := by kernel_rfl
@[go_sem] theorem agg_30 : isAggT Try.prog 30 = false := by kernel_rfl
@[go_sem] theorem flat_30 : flatTy Try.prog 30 = false := by kernel_rfl
@[go_sem] theorem zeroT_30 : zeroT Try.prog 30 = some [.own 0 []] := by kernel_rfl
@[go_sem] theorem zeroD_30 : zeroD Try.prog 30 = some [.l []] := by kernel_rfl
@[go_sem] theorem zrow_30 : zrow Try.prog 30 = [.l []] := by kernel_rfl
@[go_sem] theorem stride_30 : strideT Try.prog 30 = 6 := by kernel_rfl
@[go_sem] theorem elem_30 : elemT Try.prog 30 = some (130, 6, 48, [.v (.int .i64 0), .v (.int .i64 0), .v (.int .i64 0), .v (.int .i64 0), .v (.int .i64 0), .v (.int .i64 0)]) := by kernel_rfl
@[go_sem] theorem und_31 : Try.prog.underlying 31 = some (.struct #[⟨"Members", 25, 0, false, "", "", 0⟩, ⟨"Accs", 26, 1, false, "", "", 24⟩, ⟨"Rows", 27, 2, false, "", "", 48⟩, ⟨"Stock", 28, 3, false, "", "", 72⟩, ⟨"Prices", 29, 4, false, "", "", 96⟩, ⟨"Orders", 30, 5, false, "", "", 120⟩]) := by kernel_rfl
@[go_sem] theorem info_31 : (Try.prog.info? 31).isSome = true := by kernel_rfl
@[go_sem] theorem cells_31 : Try.prog.cellsOf 31 = 6 := by kernel_rfl
@[go_sem] theorem agg_31 : isAggT Try.prog 31 = true := by kernel_rfl
@[go_sem] theorem flat_31 : flatTy Try.prog 31 = false := by kernel_rfl
@[go_sem] theorem zeroT_31 : zeroT Try.prog 31 = some [.own 0 [], .own 0 [], .own 0 [], .own 0 [], .own 0 [], .own 0 []] := by kernel_rfl
@[go_sem] theorem zeroD_31 : zeroD Try.prog 31 = some [.l [], .l [], .l [], .l [], .l [], .l []] := by kernel_rfl
@[go_sem] theorem zrow_31 : zrow Try.prog 31 = [.l [], .l [], .l [], .l [], .l [], .l []] := by kernel_rfl
@[go_sem] theorem places_31 : placesT Try.prog 31 = some [(0, 1), (1, 1), (2, 1), (3, 1), (4, 1), (5, 1)] := by kernel_rfl
@[go_sem] theorem und_32 : Try.prog.underlying 32 = some (.struct #[⟨"Members", 25, 0, false, "", "", 0⟩, ⟨"Accs", 26, 1, false, "", "", 24⟩, ⟨"Rows", 27, 2, false, "", "", 48⟩, ⟨"Stock", 28, 3, false, "", "", 72⟩, ⟨"Prices", 29, 4, false, "", "", 96⟩, ⟨"Orders", 30, 5, false, "", "", 120⟩]) := by kernel_rfl
@[go_sem] theorem info_32 : (Try.prog.info? 32).isSome = true := by kernel_rfl
@[go_sem] theorem cells_32 : Try.prog.cellsOf 32 = 6 := by kernel_rfl
@[go_sem] theorem agg_32 : isAggT Try.prog 32 = true := by kernel_rfl
@[go_sem] theorem flat_32 : flatTy Try.prog 32 = false := by kernel_rfl
@[go_sem] theorem zeroT_32 : zeroT Try.prog 32 = some [.own 0 [], .own 0 [], .own 0 [], .own 0 [], .own 0 [], .own 0 []] := by kernel_rfl
@[go_sem] theorem zeroD_32 : zeroD Try.prog 32 = some [.l [], .l [], .l [], .l [], .l [], .l []] := by kernel_rfl
@[go_sem] theorem zrow_32 : zrow Try.prog 32 = [.l [], .l [], .l [], .l [], .l [], .l []] := by kernel_rfl
@[go_sem] theorem places_32 : placesT Try.prog 32 = some [(0, 1), (1, 1), (2, 1), (3, 1), (4, 1), (5, 1)] := by kernel_rfl
@[go_sem] theorem und_33 : Try.prog.underlying 33 = some (.slice 53) := by kernel_rfl
@[go_sem] theorem info_33 : (Try.prog.info? 33).isSome = true := by kernel_rfl
@[go_sem] theorem cells_33 : Try.prog.cellsOf 33 = 1 := by kernel_rfl
@[go_sem] theorem agg_33 : isAggT Try.prog 33 = false := by kernel_rfl
@[go_sem] theorem flat_33 : flatTy Try.prog 33 = false := by kernel_rfl
@[go_sem] theorem zeroT_33 : zeroT Try.prog 33 = some [.own 0 []] := by kernel_rfl
@[go_sem] theorem zeroD_33 : zeroD Try.prog 33 = some [.l []] := by kernel_rfl
@[go_sem] theorem zrow_33 : zrow Try.prog 33 = [.l []] := by kernel_rfl
@[go_sem] theorem stride_33 : strideT Try.prog 33 = 2 := by kernel_rfl
@[go_sem] theorem elem_33 : elemT Try.prog 33 = some (53, 2, 16, [.v (.int .i64 0), .v (.int .i64 0)]) := by kernel_rfl
@[go_sem] theorem und_34 : Try.prog.underlying 34 = some (.slice 3) := by kernel_rfl
@[go_sem] theorem info_34 : (Try.prog.info? 34).isSome = true := by kernel_rfl
@[go_sem] theorem cells_34 : Try.prog.cellsOf 34 = 1 := by kernel_rfl
@[go_sem] theorem agg_34 : isAggT Try.prog 34 = false := by kernel_rfl
@[go_sem] theorem flat_34 : flatTy Try.prog 34 = false := by kernel_rfl
@[go_sem] theorem zeroT_34 : zeroT Try.prog 34 = some [.own 0 []] := by kernel_rfl
@[go_sem] theorem zeroD_34 : zeroD Try.prog 34 = some [.l []] := by kernel_rfl
@[go_sem] theorem zrow_34 : zrow Try.prog 34 = [.l []] := by kernel_rfl
@[go_sem] theorem stride_34 : strideT Try.prog 34 = 1 := by kernel_rfl
@[go_sem] theorem elem_34 : elemT Try.prog 34 = some (3, 1, 8, [.v (.int .i64 0)]) := by kernel_rfl
@[go_sem] theorem und_35 : Try.prog.underlying 35 = some (.slice 40) := by kernel_rfl
@[go_sem] theorem info_35 : (Try.prog.info? 35).isSome = true := by kernel_rfl
@[go_sem] theorem cells_35 : Try.prog.cellsOf 35 = 1 := by kernel_rfl
@[go_sem] theorem agg_35 : isAggT Try.prog 35 = false := by kernel_rfl
@[go_sem] theorem flat_35 : flatTy Try.prog 35 = false := by kernel_rfl
@[go_sem] theorem zeroT_35 : zeroT Try.prog 35 = some [.own 0 []] := by kernel_rfl
@[go_sem] theorem zeroD_35 : zeroD Try.prog 35 = some [.l []] := by kernel_rfl
@[go_sem] theorem zrow_35 : zrow Try.prog 35 = [.l []] := by kernel_rfl
@[go_sem] theorem stride_35 : strideT Try.prog 35 = 6 := by kernel_rfl
@[go_sem] theorem elem_35 : elemT Try.prog 35 = some (40, 6, 64, [.v (.int .i64 0), .l [], .v (.int .i64 0), .v (.int .i64 0), .v (.int .i64 0), .v (.int .i64 0)]) := by kernel_rfl
@[go_sem] theorem und_36 : Try.prog.underlying 36 = some (.slice 78) := by kernel_rfl
@[go_sem] theorem info_36 : (Try.prog.info? 36).isSome = true := by kernel_rfl
@[go_sem] theorem cells_36 : Try.prog.cellsOf 36 = 1 := by kernel_rfl
@[go_sem] theorem agg_36 : isAggT Try.prog 36 = false := by kernel_rfl
@[go_sem] theorem flat_36 : flatTy Try.prog 36 = false := by kernel_rfl
@[go_sem] theorem zeroT_36 : zeroT Try.prog 36 = some [.own 0 []] := by kernel_rfl
@[go_sem] theorem zeroD_36 : zeroD Try.prog 36 = some [.l []] := by kernel_rfl
@[go_sem] theorem zrow_36 : zrow Try.prog 36 = [.l []] := by kernel_rfl
@[go_sem] theorem stride_36 : strideT Try.prog 36 = 4 := by kernel_rfl
@[go_sem] theorem elem_36 : elemT Try.prog 36 = some (78, 4, 32, [.v (.int .i64 0), .v (.int .i64 0), .v (.int .i64 0), .v (.int .i64 0)]) := by kernel_rfl
@[go_sem] theorem und_38 : Try.prog.underlying 38 = some (.slice 76) := by kernel_rfl
@[go_sem] theorem info_38 : (Try.prog.info? 38).isSome = true := by kernel_rfl
@[go_sem] theorem cells_38 : Try.prog.cellsOf 38 = 1 := by kernel_rfl
@[go_sem] theorem agg_38 : isAggT Try.prog 38 = false := by kernel_rfl
@[go_sem] theorem flat_38 : flatTy Try.prog 38 = false := by kernel_rfl
@[go_sem] theorem zeroT_38 : zeroT Try.prog 38 = some [.own 0 []] := by kernel_rfl
@[go_sem] theorem zeroD_38 : zeroD Try.prog 38 = some [.l []] := by kernel_rfl
@[go_sem] theorem zrow_38 : zrow Try.prog 38 = [.l []] := by kernel_rfl
@[go_sem] theorem stride_38 : strideT Try.prog 38 = 2 := by kernel_rfl
@[go_sem] theorem elem_38 : elemT Try.prog 38 = some (76, 2, 16, [.v (.int .i64 0), .v (.int .i64 0)]) := by kernel_rfl
@[go_sem] theorem und_39 : Try.prog.underlying 39 = some (.struct #[⟨"Id", 2, 0, false, "", "", 0⟩, ⟨"Legs", 38, 1, false, "", "", 8⟩, ⟨"Ref", 2, 2, false, "", "", 32⟩, ⟨"State", 3, 3, false, "", "", 40⟩, ⟨"Winner", 3, 4, false, "", "", 48⟩, ⟨"Price", 2, 5, false, "", "", 56⟩]) := by kernel_rfl
@[go_sem] theorem info_39 : (Try.prog.info? 39).isSome = true := by kernel_rfl
@[go_sem] theorem cells_39 : Try.prog.cellsOf 39 = 6 := by kernel_rfl
@[go_sem] theorem agg_39 : isAggT Try.prog 39 = true := by kernel_rfl
@[go_sem] theorem flat_39 : flatTy Try.prog 39 = false := by kernel_rfl
@[go_sem] theorem zeroT_39 : zeroT Try.prog 39 = some [.d (.v (.int .i64 0)), .own 0 [], .d (.v (.int .i64 0)), .d (.v (.int .i64 0)), .d (.v (.int .i64 0)), .d (.v (.int .i64 0))] := by kernel_rfl
@[go_sem] theorem zeroD_39 : zeroD Try.prog 39 = some [.v (.int .i64 0), .l [], .v (.int .i64 0), .v (.int .i64 0), .v (.int .i64 0), .v (.int .i64 0)] := by kernel_rfl
@[go_sem] theorem zrow_39 : zrow Try.prog 39 = [.v (.int .i64 0), .l [], .v (.int .i64 0), .v (.int .i64 0), .v (.int .i64 0), .v (.int .i64 0)] := by kernel_rfl
@[go_sem] theorem places_39 : placesT Try.prog 39 = some [(0, 1), (1, 1), (2, 1), (3, 1), (4, 1), (5, 1)] := by kernel_rfl
@[go_sem] theorem und_40 : Try.prog.underlying 40 = some (.struct #[⟨"Id", 2, 0, false, "", "", 0⟩, ⟨"Legs", 38, 1, false, "", "", 8⟩, ⟨"Ref", 2, 2, false, "", "", 32⟩, ⟨"State", 3, 3, false, "", "", 40⟩, ⟨"Winner", 3, 4, false, "", "", 48⟩, ⟨"Price", 2, 5, false, "", "", 56⟩]) := by kernel_rfl
@[go_sem] theorem info_40 : (Try.prog.info? 40).isSome = true := by kernel_rfl
@[go_sem] theorem cells_40 : Try.prog.cellsOf 40 = 6 := by kernel_rfl
@[go_sem] theorem agg_40 : isAggT Try.prog 40 = true := by kernel_rfl
@[go_sem] theorem flat_40 : flatTy Try.prog 40 = false := by kernel_rfl
@[go_sem] theorem zeroT_40 : zeroT Try.prog 40 = some [.d (.v (.int .i64 0)), .own 0 [], .d (.v (.int .i64 0)), .d (.v (.int .i64 0)), .d (.v (.int .i64 0)), .d (.v (.int .i64 0))] := by kernel_rfl
@[go_sem] theorem zeroD_40 : zeroD Try.prog 40 = some [.v (.int .i64 0), .l [], .v (.int .i64 0), .v (.int .i64 0), .v (.int .i64 0), .v (.int .i64 0)] := by kernel_rfl
@[go_sem] theorem zrow_40 : zrow Try.prog 40 = [.v (.int .i64 0), .l [], .v (.int .i64 0), .v (.int .i64 0), .v (.int .i64 0), .v (.int .i64 0)] := by kernel_rfl
@[go_sem] theorem places_40 : placesT Try.prog 40 = some [(0, 1), (1, 1), (2, 1), (3, 1), (4, 1), (5, 1)] := by kernel_rfl
@[go_sem] theorem und_42 : Try.prog.underlying 42 = some (.slice 65) := by kernel_rfl
@[go_sem] theorem info_42 : (Try.prog.info? 42).isSome = true := by kernel_rfl
@[go_sem] theorem cells_42 : Try.prog.cellsOf 42 = 1 := by kernel_rfl
@[go_sem] theorem agg_42 : isAggT Try.prog 42 = false := by kernel_rfl
@[go_sem] theorem flat_42 : flatTy Try.prog 42 = false := by kernel_rfl
@[go_sem] theorem zeroT_42 : zeroT Try.prog 42 = some [.own 0 []] := by kernel_rfl
@[go_sem] theorem zeroD_42 : zeroD Try.prog 42 = some [.l []] := by kernel_rfl
@[go_sem] theorem zrow_42 : zrow Try.prog 42 = [.l []] := by kernel_rfl
@[go_sem] theorem stride_42 : strideT Try.prog 42 = 2 := by kernel_rfl
@[go_sem] theorem elem_42 : elemT Try.prog 42 = some (65, 2, 16, [.v (.int .i64 0), .v (.int .i64 0)]) := by kernel_rfl
@[go_sem] theorem und_46 : Try.prog.underlying 46 = some (.int .i64) := by kernel_rfl
@[go_sem] theorem info_46 : (Try.prog.info? 46).isSome = true := by kernel_rfl
@[go_sem] theorem cells_46 : Try.prog.cellsOf 46 = 1 := by kernel_rfl
@[go_sem] theorem agg_46 : isAggT Try.prog 46 = false := by kernel_rfl
@[go_sem] theorem flat_46 : flatTy Try.prog 46 = true := by kernel_rfl
@[go_sem] theorem zeroT_46 : zeroT Try.prog 46 = some [.d (.v (.int .i64 0))] := by kernel_rfl
@[go_sem] theorem zeroD_46 : zeroD Try.prog 46 = some [.v (.int .i64 0)] := by kernel_rfl
@[go_sem] theorem zrow_46 : zrow Try.prog 46 = [.v (.int .i64 0)] := by kernel_rfl
@[go_sem] theorem und_52 : Try.prog.underlying 52 = some (.struct #[⟨"Member", 3, 0, false, "", "", 0⟩, ⟨"Class", 3, 1, false, "", "", 8⟩]) := by kernel_rfl
@[go_sem] theorem info_52 : (Try.prog.info? 52).isSome = true := by kernel_rfl
@[go_sem] theorem cells_52 : Try.prog.cellsOf 52 = 2 := by kernel_rfl
@[go_sem] theorem agg_52 : isAggT Try.prog 52 = true := by kernel_rfl
@[go_sem] theorem flat_52 : flatTy Try.prog 52 = true := by kernel_rfl
@[go_sem] theorem zeroT_52 : zeroT Try.prog 52 = some [.d (.v (.int .i64 0)), .d (.v (.int .i64 0))] := by kernel_rfl
@[go_sem] theorem zeroD_52 : zeroD Try.prog 52 = some [.v (.int .i64 0), .v (.int .i64 0)] := by kernel_rfl
@[go_sem] theorem zrow_52 : zrow Try.prog 52 = [.v (.int .i64 0), .v (.int .i64 0)] := by kernel_rfl
@[go_sem] theorem eq_52 (op : BinOp) (x0 y0 : Int) (x1 y1 : Int) (K : Go.Ax.T → Prop) : eqAgg Try.prog op 52 [.v (.int .i64 x0), .v (.int .i64 x1)] [.v (.int .i64 y0), .v (.int .i64 y1)] K = match op with | .eql => K (.one (.v (.bool (x0 == y0 && x1 == y1)))) | .neq => K (.one (.v (.bool (!(x0 == y0 && x1 == y1))))) | _ => False :=
  eqAgg_deep und_52 (by kernel_rfl) (ks := [.int .i64, .int .i64]) (by kernel_rfl) (xs := [.int .i64 x0, .int .i64 x1]) (ys := [.int .i64 y0, .int .i64 y1]) (by kernel_rfl) (by kernel_rfl) op K
@[go_sem] theorem places_52 : placesT Try.prog 52 = some [(0, 1), (1, 1)] := by kernel_rfl
@[go_sem] theorem und_53 : Try.prog.underlying 53 = some (.struct #[⟨"Member", 3, 0, false, "", "", 0⟩, ⟨"Class", 3, 1, false, "", "", 8⟩]) := by kernel_rfl
@[go_sem] theorem info_53 : (Try.prog.info? 53).isSome = true := by kernel_rfl
@[go_sem] theorem cells_53 : Try.prog.cellsOf 53 = 2 := by kernel_rfl
@[go_sem] theorem agg_53 : isAggT Try.prog 53 = true := by kernel_rfl
@[go_sem] theorem flat_53 : flatTy Try.prog 53 = true := by kernel_rfl
@[go_sem] theorem zeroT_53 : zeroT Try.prog 53 = some [.d (.v (.int .i64 0)), .d (.v (.int .i64 0))] := by kernel_rfl
@[go_sem] theorem zeroD_53 : zeroD Try.prog 53 = some [.v (.int .i64 0), .v (.int .i64 0)] := by kernel_rfl
@[go_sem] theorem zrow_53 : zrow Try.prog 53 = [.v (.int .i64 0), .v (.int .i64 0)] := by kernel_rfl
@[go_sem] theorem eq_53 (op : BinOp) (x0 y0 : Int) (x1 y1 : Int) (K : Go.Ax.T → Prop) : eqAgg Try.prog op 53 [.v (.int .i64 x0), .v (.int .i64 x1)] [.v (.int .i64 y0), .v (.int .i64 y1)] K = match op with | .eql => K (.one (.v (.bool (x0 == y0 && x1 == y1)))) | .neq => K (.one (.v (.bool (!(x0 == y0 && x1 == y1))))) | _ => False :=
  eqAgg_deep und_53 (by kernel_rfl) (ks := [.int .i64, .int .i64]) (by kernel_rfl) (xs := [.int .i64 x0, .int .i64 x1]) (ys := [.int .i64 y0, .int .i64 y1]) (by kernel_rfl) (by kernel_rfl) op K
@[go_sem] theorem places_53 : placesT Try.prog 53 = some [(0, 1), (1, 1)] := by kernel_rfl
@[go_sem] theorem und_61 : Try.prog.underlying 61 = some (.slice 68) := by kernel_rfl
@[go_sem] theorem info_61 : (Try.prog.info? 61).isSome = true := by kernel_rfl
@[go_sem] theorem cells_61 : Try.prog.cellsOf 61 = 1 := by kernel_rfl
@[go_sem] theorem agg_61 : isAggT Try.prog 61 = false := by kernel_rfl
@[go_sem] theorem flat_61 : flatTy Try.prog 61 = false := by kernel_rfl
@[go_sem] theorem zeroT_61 : zeroT Try.prog 61 = some [.own 0 []] := by kernel_rfl
@[go_sem] theorem zeroD_61 : zeroD Try.prog 61 = some [.l []] := by kernel_rfl
@[go_sem] theorem zrow_61 : zrow Try.prog 61 = [.l []] := by kernel_rfl
@[go_sem] theorem stride_61 : strideT Try.prog 61 = 5 := by kernel_rfl
@[go_sem] theorem elem_61 : elemT Try.prog 61 = some (68, 5, 40, [.v (.int .i64 0), .v (.int .i64 0), .v (.int .i64 0), .v (.int .i64 0), .v (.int .i64 0)]) := by kernel_rfl
@[go_sem] theorem und_64 : Try.prog.underlying 64 = some (.struct #[⟨"Acc", 3, 0, false, "", "", 0⟩, ⟨"X", 2, 1, false, "", "", 8⟩]) := by kernel_rfl
@[go_sem] theorem info_64 : (Try.prog.info? 64).isSome = true := by kernel_rfl
@[go_sem] theorem cells_64 : Try.prog.cellsOf 64 = 2 := by kernel_rfl
@[go_sem] theorem agg_64 : isAggT Try.prog 64 = true := by kernel_rfl
@[go_sem] theorem flat_64 : flatTy Try.prog 64 = true := by kernel_rfl
@[go_sem] theorem zeroT_64 : zeroT Try.prog 64 = some [.d (.v (.int .i64 0)), .d (.v (.int .i64 0))] := by kernel_rfl
@[go_sem] theorem zeroD_64 : zeroD Try.prog 64 = some [.v (.int .i64 0), .v (.int .i64 0)] := by kernel_rfl
@[go_sem] theorem zrow_64 : zrow Try.prog 64 = [.v (.int .i64 0), .v (.int .i64 0)] := by kernel_rfl
@[go_sem] theorem eq_64 (op : BinOp) (x0 y0 : Int) (x1 y1 : Int) (K : Go.Ax.T → Prop) : eqAgg Try.prog op 64 [.v (.int .i64 x0), .v (.int .i64 x1)] [.v (.int .i64 y0), .v (.int .i64 y1)] K = match op with | .eql => K (.one (.v (.bool (x0 == y0 && x1 == y1)))) | .neq => K (.one (.v (.bool (!(x0 == y0 && x1 == y1))))) | _ => False :=
  eqAgg_deep und_64 (by kernel_rfl) (ks := [.int .i64, .int .i64]) (by kernel_rfl) (xs := [.int .i64 x0, .int .i64 x1]) (ys := [.int .i64 y0, .int .i64 y1]) (by kernel_rfl) (by kernel_rfl) op K
@[go_sem] theorem places_64 : placesT Try.prog 64 = some [(0, 1), (1, 1)] := by kernel_rfl
@[go_sem] theorem und_65 : Try.prog.underlying 65 = some (.struct #[⟨"Acc", 3, 0, false, "", "", 0⟩, ⟨"X", 2, 1, false, "", "", 8⟩]) := by kernel_rfl
@[go_sem] theorem info_65 : (Try.prog.info? 65).isSome = true := by kernel_rfl
@[go_sem] theorem cells_65 : Try.prog.cellsOf 65 = 2 := by kernel_rfl
@[go_sem] theorem agg_65 : isAggT Try.prog 65 = true := by kernel_rfl
@[go_sem] theorem flat_65 : flatTy Try.prog 65 = true := by kernel_rfl
@[go_sem] theorem zeroT_65 : zeroT Try.prog 65 = some [.d (.v (.int .i64 0)), .d (.v (.int .i64 0))] := by kernel_rfl
@[go_sem] theorem zeroD_65 : zeroD Try.prog 65 = some [.v (.int .i64 0), .v (.int .i64 0)] := by kernel_rfl
@[go_sem] theorem zrow_65 : zrow Try.prog 65 = [.v (.int .i64 0), .v (.int .i64 0)] := by kernel_rfl
@[go_sem] theorem eq_65 (op : BinOp) (x0 y0 : Int) (x1 y1 : Int) (K : Go.Ax.T → Prop) : eqAgg Try.prog op 65 [.v (.int .i64 x0), .v (.int .i64 x1)] [.v (.int .i64 y0), .v (.int .i64 y1)] K = match op with | .eql => K (.one (.v (.bool (x0 == y0 && x1 == y1)))) | .neq => K (.one (.v (.bool (!(x0 == y0 && x1 == y1))))) | _ => False :=
  eqAgg_deep und_65 (by kernel_rfl) (ks := [.int .i64, .int .i64]) (by kernel_rfl) (xs := [.int .i64 x0, .int .i64 x1]) (ys := [.int .i64 y0, .int .i64 y1]) (by kernel_rfl) (by kernel_rfl) op K
@[go_sem] theorem places_65 : placesT Try.prog 65 = some [(0, 1), (1, 1)] := by kernel_rfl
@[go_sem] theorem und_67 : Try.prog.underlying 67 = some (.struct #[⟨"Step", 3, 0, false, "", "", 0⟩, ⟨"Kind", 3, 1, false, "", "", 8⟩, ⟨"N", 3, 2, false, "", "", 16⟩, ⟨"Cap", 2, 3, false, "", "", 24⟩, ⟨"Charge", 2, 4, false, "", "", 32⟩]) := by kernel_rfl
@[go_sem] theorem info_67 : (Try.prog.info? 67).isSome = true := by kernel_rfl
@[go_sem] theorem cells_67 : Try.prog.cellsOf 67 = 5 := by kernel_rfl
@[go_sem] theorem agg_67 : isAggT Try.prog 67 = true := by kernel_rfl
@[go_sem] theorem flat_67 : flatTy Try.prog 67 = true := by kernel_rfl
@[go_sem] theorem zeroT_67 : zeroT Try.prog 67 = some [.d (.v (.int .i64 0)), .d (.v (.int .i64 0)), .d (.v (.int .i64 0)), .d (.v (.int .i64 0)), .d (.v (.int .i64 0))] := by kernel_rfl
@[go_sem] theorem zeroD_67 : zeroD Try.prog 67 = some [.v (.int .i64 0), .v (.int .i64 0), .v (.int .i64 0), .v (.int .i64 0), .v (.int .i64 0)] := by kernel_rfl
@[go_sem] theorem zrow_67 : zrow Try.prog 67 = [.v (.int .i64 0), .v (.int .i64 0), .v (.int .i64 0), .v (.int .i64 0), .v (.int .i64 0)] := by kernel_rfl
@[go_sem] theorem eq_67 (op : BinOp) (x0 y0 : Int) (x1 y1 : Int) (x2 y2 : Int) (x3 y3 : Int) (x4 y4 : Int) (K : Go.Ax.T → Prop) : eqAgg Try.prog op 67 [.v (.int .i64 x0), .v (.int .i64 x1), .v (.int .i64 x2), .v (.int .i64 x3), .v (.int .i64 x4)] [.v (.int .i64 y0), .v (.int .i64 y1), .v (.int .i64 y2), .v (.int .i64 y3), .v (.int .i64 y4)] K = match op with | .eql => K (.one (.v (.bool (x0 == y0 && (x1 == y1 && (x2 == y2 && (x3 == y3 && x4 == y4))))))) | .neq => K (.one (.v (.bool (!(x0 == y0 && (x1 == y1 && (x2 == y2 && (x3 == y3 && x4 == y4)))))))) | _ => False :=
  eqAgg_deep und_67 (by kernel_rfl) (ks := [.int .i64, .int .i64, .int .i64, .int .i64, .int .i64]) (by kernel_rfl) (xs := [.int .i64 x0, .int .i64 x1, .int .i64 x2, .int .i64 x3, .int .i64 x4]) (ys := [.int .i64 y0, .int .i64 y1, .int .i64 y2, .int .i64 y3, .int .i64 y4]) (by kernel_rfl) (by kernel_rfl) op K
@[go_sem] theorem places_67 : placesT Try.prog 67 = some [(0, 1), (1, 1), (2, 1), (3, 1), (4, 1)] := by kernel_rfl
@[go_sem] theorem und_68 : Try.prog.underlying 68 = some (.struct #[⟨"Step", 3, 0, false, "", "", 0⟩, ⟨"Kind", 3, 1, false, "", "", 8⟩, ⟨"N", 3, 2, false, "", "", 16⟩, ⟨"Cap", 2, 3, false, "", "", 24⟩, ⟨"Charge", 2, 4, false, "", "", 32⟩]) := by kernel_rfl
@[go_sem] theorem info_68 : (Try.prog.info? 68).isSome = true := by kernel_rfl
@[go_sem] theorem cells_68 : Try.prog.cellsOf 68 = 5 := by kernel_rfl
@[go_sem] theorem agg_68 : isAggT Try.prog 68 = true := by kernel_rfl
@[go_sem] theorem flat_68 : flatTy Try.prog 68 = true := by kernel_rfl
@[go_sem] theorem zeroT_68 : zeroT Try.prog 68 = some [.d (.v (.int .i64 0)), .d (.v (.int .i64 0)), .d (.v (.int .i64 0)), .d (.v (.int .i64 0)), .d (.v (.int .i64 0))] := by kernel_rfl
@[go_sem] theorem zeroD_68 : zeroD Try.prog 68 = some [.v (.int .i64 0), .v (.int .i64 0), .v (.int .i64 0), .v (.int .i64 0), .v (.int .i64 0)] := by kernel_rfl
@[go_sem] theorem zrow_68 : zrow Try.prog 68 = [.v (.int .i64 0), .v (.int .i64 0), .v (.int .i64 0), .v (.int .i64 0), .v (.int .i64 0)] := by kernel_rfl
@[go_sem] theorem eq_68 (op : BinOp) (x0 y0 : Int) (x1 y1 : Int) (x2 y2 : Int) (x3 y3 : Int) (x4 y4 : Int) (K : Go.Ax.T → Prop) : eqAgg Try.prog op 68 [.v (.int .i64 x0), .v (.int .i64 x1), .v (.int .i64 x2), .v (.int .i64 x3), .v (.int .i64 x4)] [.v (.int .i64 y0), .v (.int .i64 y1), .v (.int .i64 y2), .v (.int .i64 y3), .v (.int .i64 y4)] K = match op with | .eql => K (.one (.v (.bool (x0 == y0 && (x1 == y1 && (x2 == y2 && (x3 == y3 && x4 == y4))))))) | .neq => K (.one (.v (.bool (!(x0 == y0 && (x1 == y1 && (x2 == y2 && (x3 == y3 && x4 == y4)))))))) | _ => False :=
  eqAgg_deep und_68 (by kernel_rfl) (ks := [.int .i64, .int .i64, .int .i64, .int .i64, .int .i64]) (by kernel_rfl) (xs := [.int .i64 x0, .int .i64 x1, .int .i64 x2, .int .i64 x3, .int .i64 x4]) (ys := [.int .i64 y0, .int .i64 y1, .int .i64 y2, .int .i64 y3, .int .i64 y4]) (by kernel_rfl) (by kernel_rfl) op K
@[go_sem] theorem places_68 : placesT Try.prog 68 = some [(0, 1), (1, 1), (2, 1), (3, 1), (4, 1)] := by kernel_rfl
@[go_sem] theorem und_69 : Try.prog.underlying 69 = some (.struct #[⟨"Bucket", 3, 0, false, "", "", 0⟩, ⟨"Price", 2, 1, false, "", "", 8⟩, ⟨"Rate", 2, 2, false, "", "", 16⟩, ⟨"Slip", 2, 3, false, "", "", 24⟩]) := by kernel_rfl
@[go_sem] theorem info_69 : (Try.prog.info? 69).isSome = true := by kernel_rfl
@[go_sem] theorem cells_69 : Try.prog.cellsOf 69 = 4 := by kernel_rfl
@[go_sem] theorem agg_69 : isAggT Try.prog 69 = true := by kernel_rfl
@[go_sem] theorem flat_69 : flatTy Try.prog 69 = true := by kernel_rfl
@[go_sem] theorem zeroT_69 : zeroT Try.prog 69 = some [.d (.v (.int .i64 0)), .d (.v (.int .i64 0)), .d (.v (.int .i64 0)), .d (.v (.int .i64 0))] := by kernel_rfl
@[go_sem] theorem zeroD_69 : zeroD Try.prog 69 = some [.v (.int .i64 0), .v (.int .i64 0), .v (.int .i64 0), .v (.int .i64 0)] := by kernel_rfl
@[go_sem] theorem zrow_69 : zrow Try.prog 69 = [.v (.int .i64 0), .v (.int .i64 0), .v (.int .i64 0), .v (.int .i64 0)] := by kernel_rfl
@[go_sem] theorem eq_69 (op : BinOp) (x0 y0 : Int) (x1 y1 : Int) (x2 y2 : Int) (x3 y3 : Int) (K : Go.Ax.T → Prop) : eqAgg Try.prog op 69 [.v (.int .i64 x0), .v (.int .i64 x1), .v (.int .i64 x2), .v (.int .i64 x3)] [.v (.int .i64 y0), .v (.int .i64 y1), .v (.int .i64 y2), .v (.int .i64 y3)] K = match op with | .eql => K (.one (.v (.bool (x0 == y0 && (x1 == y1 && (x2 == y2 && x3 == y3)))))) | .neq => K (.one (.v (.bool (!(x0 == y0 && (x1 == y1 && (x2 == y2 && x3 == y3))))))) | _ => False :=
  eqAgg_deep und_69 (by kernel_rfl) (ks := [.int .i64, .int .i64, .int .i64, .int .i64]) (by kernel_rfl) (xs := [.int .i64 x0, .int .i64 x1, .int .i64 x2, .int .i64 x3]) (ys := [.int .i64 y0, .int .i64 y1, .int .i64 y2, .int .i64 y3]) (by kernel_rfl) (by kernel_rfl) op K
@[go_sem] theorem places_69 : placesT Try.prog 69 = some [(0, 1), (1, 1), (2, 1), (3, 1)] := by kernel_rfl
@[go_sem] theorem und_70 : Try.prog.underlying 70 = some (.struct #[⟨"Bucket", 3, 0, false, "", "", 0⟩, ⟨"Price", 2, 1, false, "", "", 8⟩, ⟨"Rate", 2, 2, false, "", "", 16⟩, ⟨"Slip", 2, 3, false, "", "", 24⟩]) := by kernel_rfl
@[go_sem] theorem info_70 : (Try.prog.info? 70).isSome = true := by kernel_rfl
@[go_sem] theorem cells_70 : Try.prog.cellsOf 70 = 4 := by kernel_rfl
@[go_sem] theorem agg_70 : isAggT Try.prog 70 = true := by kernel_rfl
@[go_sem] theorem flat_70 : flatTy Try.prog 70 = true := by kernel_rfl
@[go_sem] theorem zeroT_70 : zeroT Try.prog 70 = some [.d (.v (.int .i64 0)), .d (.v (.int .i64 0)), .d (.v (.int .i64 0)), .d (.v (.int .i64 0))] := by kernel_rfl
@[go_sem] theorem zeroD_70 : zeroD Try.prog 70 = some [.v (.int .i64 0), .v (.int .i64 0), .v (.int .i64 0), .v (.int .i64 0)] := by kernel_rfl
@[go_sem] theorem zrow_70 : zrow Try.prog 70 = [.v (.int .i64 0), .v (.int .i64 0), .v (.int .i64 0), .v (.int .i64 0)] := by kernel_rfl
@[go_sem] theorem eq_70 (op : BinOp) (x0 y0 : Int) (x1 y1 : Int) (x2 y2 : Int) (x3 y3 : Int) (K : Go.Ax.T → Prop) : eqAgg Try.prog op 70 [.v (.int .i64 x0), .v (.int .i64 x1), .v (.int .i64 x2), .v (.int .i64 x3)] [.v (.int .i64 y0), .v (.int .i64 y1), .v (.int .i64 y2), .v (.int .i64 y3)] K = match op with | .eql => K (.one (.v (.bool (x0 == y0 && (x1 == y1 && (x2 == y2 && x3 == y3)))))) | .neq => K (.one (.v (.bool (!(x0 == y0 && (x1 == y1 && (x2 == y2 && x3 == y3))))))) | _ => False :=
  eqAgg_deep und_70 (by kernel_rfl) (ks := [.int .i64, .int .i64, .int .i64, .int .i64]) (by kernel_rfl) (xs := [.int .i64 x0, .int .i64 x1, .int .i64 x2, .int .i64 x3]) (ys := [.int .i64 y0, .int .i64 y1, .int .i64 y2, .int .i64 y3]) (by kernel_rfl) (by kernel_rfl) op K
@[go_sem] theorem places_70 : placesT Try.prog 70 = some [(0, 1), (1, 1), (2, 1), (3, 1)] := by kernel_rfl
@[go_sem] theorem und_71 : Try.prog.underlying 71 = some (.struct #[⟨"Id", 3, 0, false, "", "", 0⟩, ⟨"Status", 3, 1, false, "", "", 8⟩]) := by kernel_rfl
@[go_sem] theorem info_71 : (Try.prog.info? 71).isSome = true := by kernel_rfl
@[go_sem] theorem cells_71 : Try.prog.cellsOf 71 = 2 := by kernel_rfl
@[go_sem] theorem agg_71 : isAggT Try.prog 71 = true := by kernel_rfl
@[go_sem] theorem flat_71 : flatTy Try.prog 71 = true := by kernel_rfl
@[go_sem] theorem zeroT_71 : zeroT Try.prog 71 = some [.d (.v (.int .i64 0)), .d (.v (.int .i64 0))] := by kernel_rfl
@[go_sem] theorem zeroD_71 : zeroD Try.prog 71 = some [.v (.int .i64 0), .v (.int .i64 0)] := by kernel_rfl
@[go_sem] theorem zrow_71 : zrow Try.prog 71 = [.v (.int .i64 0), .v (.int .i64 0)] := by kernel_rfl
@[go_sem] theorem eq_71 (op : BinOp) (x0 y0 : Int) (x1 y1 : Int) (K : Go.Ax.T → Prop) : eqAgg Try.prog op 71 [.v (.int .i64 x0), .v (.int .i64 x1)] [.v (.int .i64 y0), .v (.int .i64 y1)] K = match op with | .eql => K (.one (.v (.bool (x0 == y0 && x1 == y1)))) | .neq => K (.one (.v (.bool (!(x0 == y0 && x1 == y1))))) | _ => False :=
  eqAgg_deep und_71 (by kernel_rfl) (ks := [.int .i64, .int .i64]) (by kernel_rfl) (xs := [.int .i64 x0, .int .i64 x1]) (ys := [.int .i64 y0, .int .i64 y1]) (by kernel_rfl) (by kernel_rfl) op K
@[go_sem] theorem places_71 : placesT Try.prog 71 = some [(0, 1), (1, 1)] := by kernel_rfl
@[go_sem] theorem und_72 : Try.prog.underlying 72 = some (.struct #[⟨"Id", 3, 0, false, "", "", 0⟩, ⟨"Status", 3, 1, false, "", "", 8⟩]) := by kernel_rfl
@[go_sem] theorem info_72 : (Try.prog.info? 72).isSome = true := by kernel_rfl
@[go_sem] theorem cells_72 : Try.prog.cellsOf 72 = 2 := by kernel_rfl
@[go_sem] theorem agg_72 : isAggT Try.prog 72 = true := by kernel_rfl
@[go_sem] theorem flat_72 : flatTy Try.prog 72 = true := by kernel_rfl
@[go_sem] theorem zeroT_72 : zeroT Try.prog 72 = some [.d (.v (.int .i64 0)), .d (.v (.int .i64 0))] := by kernel_rfl
@[go_sem] theorem zeroD_72 : zeroD Try.prog 72 = some [.v (.int .i64 0), .v (.int .i64 0)] := by kernel_rfl
@[go_sem] theorem zrow_72 : zrow Try.prog 72 = [.v (.int .i64 0), .v (.int .i64 0)] := by kernel_rfl
@[go_sem] theorem eq_72 (op : BinOp) (x0 y0 : Int) (x1 y1 : Int) (K : Go.Ax.T → Prop) : eqAgg Try.prog op 72 [.v (.int .i64 x0), .v (.int .i64 x1)] [.v (.int .i64 y0), .v (.int .i64 y1)] K = match op with | .eql => K (.one (.v (.bool (x0 == y0 && x1 == y1)))) | .neq => K (.one (.v (.bool (!(x0 == y0 && x1 == y1))))) | _ => False :=
  eqAgg_deep und_72 (by kernel_rfl) (ks := [.int .i64, .int .i64]) (by kernel_rfl) (xs := [.int .i64 x0, .int .i64 x1]) (ys := [.int .i64 y0, .int .i64 y1]) (by kernel_rfl) (by kernel_rfl) op K
@[go_sem] theorem places_72 : placesT Try.prog 72 = some [(0, 1), (1, 1)] := by kernel_rfl
@[go_sem] theorem und_73 : Try.prog.underlying 73 = some (.struct #[⟨"Kind", 3, 0, false, "", "", 0⟩, ⟨"N", 3, 1, false, "", "", 8⟩, ⟨"Sum", 2, 2, false, "", "", 16⟩]) := by kernel_rfl
@[go_sem] theorem info_73 : (Try.prog.info? 73).isSome = true := by kernel_rfl
@[go_sem] theorem cells_73 : Try.prog.cellsOf 73 = 3 := by kernel_rfl
@[go_sem] theorem agg_73 : isAggT Try.prog 73 = true := by kernel_rfl
@[go_sem] theorem flat_73 : flatTy Try.prog 73 = true := by kernel_rfl
@[go_sem] theorem zeroT_73 : zeroT Try.prog 73 = some [.d (.v (.int .i64 0)), .d (.v (.int .i64 0)), .d (.v (.int .i64 0))] := by kernel_rfl
@[go_sem] theorem zeroD_73 : zeroD Try.prog 73 = some [.v (.int .i64 0), .v (.int .i64 0), .v (.int .i64 0)] := by kernel_rfl
@[go_sem] theorem zrow_73 : zrow Try.prog 73 = [.v (.int .i64 0), .v (.int .i64 0), .v (.int .i64 0)] := by kernel_rfl
@[go_sem] theorem eq_73 (op : BinOp) (x0 y0 : Int) (x1 y1 : Int) (x2 y2 : Int) (K : Go.Ax.T → Prop) : eqAgg Try.prog op 73 [.v (.int .i64 x0), .v (.int .i64 x1), .v (.int .i64 x2)] [.v (.int .i64 y0), .v (.int .i64 y1), .v (.int .i64 y2)] K = match op with | .eql => K (.one (.v (.bool (x0 == y0 && (x1 == y1 && x2 == y2))))) | .neq => K (.one (.v (.bool (!(x0 == y0 && (x1 == y1 && x2 == y2)))))) | _ => False :=
  eqAgg_deep und_73 (by kernel_rfl) (ks := [.int .i64, .int .i64, .int .i64]) (by kernel_rfl) (xs := [.int .i64 x0, .int .i64 x1, .int .i64 x2]) (ys := [.int .i64 y0, .int .i64 y1, .int .i64 y2]) (by kernel_rfl) (by kernel_rfl) op K
@[go_sem] theorem places_73 : placesT Try.prog 73 = some [(0, 1), (1, 1), (2, 1)] := by kernel_rfl
@[go_sem] theorem und_74 : Try.prog.underlying 74 = some (.struct #[⟨"Kind", 3, 0, false, "", "", 0⟩, ⟨"N", 3, 1, false, "", "", 8⟩, ⟨"Sum", 2, 2, false, "", "", 16⟩]) := by kernel_rfl
@[go_sem] theorem info_74 : (Try.prog.info? 74).isSome = true := by kernel_rfl
@[go_sem] theorem cells_74 : Try.prog.cellsOf 74 = 3 := by kernel_rfl
@[go_sem] theorem agg_74 : isAggT Try.prog 74 = true := by kernel_rfl
@[go_sem] theorem flat_74 : flatTy Try.prog 74 = true := by kernel_rfl
@[go_sem] theorem zeroT_74 : zeroT Try.prog 74 = some [.d (.v (.int .i64 0)), .d (.v (.int .i64 0)), .d (.v (.int .i64 0))] := by kernel_rfl
@[go_sem] theorem zeroD_74 : zeroD Try.prog 74 = some [.v (.int .i64 0), .v (.int .i64 0), .v (.int .i64 0)] := by kernel_rfl
@[go_sem] theorem zrow_74 : zrow Try.prog 74 = [.v (.int .i64 0), .v (.int .i64 0), .v (.int .i64 0)] := by kernel_rfl
@[go_sem] theorem eq_74 (op : BinOp) (x0 y0 : Int) (x1 y1 : Int) (x2 y2 : Int) (K : Go.Ax.T → Prop) : eqAgg Try.prog op 74 [.v (.int .i64 x0), .v (.int .i64 x1), .v (.int .i64 x2)] [.v (.int .i64 y0), .v (.int .i64 y1), .v (.int .i64 y2)] K = match op with | .eql => K (.one (.v (.bool (x0 == y0 && (x1 == y1 && x2 == y2))))) | .neq => K (.one (.v (.bool (!(x0 == y0 && (x1 == y1 && x2 == y2)))))) | _ => False :=
  eqAgg_deep und_74 (by kernel_rfl) (ks := [.int .i64, .int .i64, .int .i64]) (by kernel_rfl) (xs := [.int .i64 x0, .int .i64 x1, .int .i64 x2]) (ys := [.int .i64 y0, .int .i64 y1, .int .i64 y2]) (by kernel_rfl) (by kernel_rfl) op K
@[go_sem] theorem places_74 : placesT Try.prog 74 = some [(0, 1), (1, 1), (2, 1)] := by kernel_rfl
@[go_sem] theorem und_75 : Try.prog.underlying 75 = some (.struct #[⟨"Inst", 3, 0, false, "", "", 0⟩, ⟨"Q", 2, 1, false, "", "", 8⟩]) := by kernel_rfl
@[go_sem] theorem info_75 : (Try.prog.info? 75).isSome = true := by kernel_rfl
@[go_sem] theorem cells_75 : Try.prog.cellsOf 75 = 2 := by kernel_rfl
@[go_sem] theorem agg_75 : isAggT Try.prog 75 = true := by kernel_rfl
@[go_sem] theorem flat_75 : flatTy Try.prog 75 = true := by kernel_rfl
@[go_sem] theorem zeroT_75 : zeroT Try.prog 75 = some [.d (.v (.int .i64 0)), .d (.v (.int .i64 0))] := by kernel_rfl
@[go_sem] theorem zeroD_75 : zeroD Try.prog 75 = some [.v (.int .i64 0), .v (.int .i64 0)] := by kernel_rfl
@[go_sem] theorem zrow_75 : zrow Try.prog 75 = [.v (.int .i64 0), .v (.int .i64 0)] := by kernel_rfl
@[go_sem] theorem eq_75 (op : BinOp) (x0 y0 : Int) (x1 y1 : Int) (K : Go.Ax.T → Prop) : eqAgg Try.prog op 75 [.v (.int .i64 x0), .v (.int .i64 x1)] [.v (.int .i64 y0), .v (.int .i64 y1)] K = match op with | .eql => K (.one (.v (.bool (x0 == y0 && x1 == y1)))) | .neq => K (.one (.v (.bool (!(x0 == y0 && x1 == y1))))) | _ => False :=
  eqAgg_deep und_75 (by kernel_rfl) (ks := [.int .i64, .int .i64]) (by kernel_rfl) (xs := [.int .i64 x0, .int .i64 x1]) (ys := [.int .i64 y0, .int .i64 y1]) (by kernel_rfl) (by kernel_rfl) op K
@[go_sem] theorem places_75 : placesT Try.prog 75 = some [(0, 1), (1, 1)] := by kernel_rfl
@[go_sem] theorem und_76 : Try.prog.underlying 76 = some (.struct #[⟨"Inst", 3, 0, false, "", "", 0⟩, ⟨"Q", 2, 1, false, "", "", 8⟩]) := by kernel_rfl
@[go_sem] theorem info_76 : (Try.prog.info? 76).isSome = true := by kernel_rfl
@[go_sem] theorem cells_76 : Try.prog.cellsOf 76 = 2 := by kernel_rfl
@[go_sem] theorem agg_76 : isAggT Try.prog 76 = true := by kernel_rfl
@[go_sem] theorem flat_76 : flatTy Try.prog 76 = true := by kernel_rfl
@[go_sem] theorem zeroT_76 : zeroT Try.prog 76 = some [.d (.v (.int .i64 0)), .d (.v (.int .i64 0))] := by kernel_rfl
@[go_sem] theorem zeroD_76 : zeroD Try.prog 76 = some [.v (.int .i64 0), .v (.int .i64 0)] := by kernel_rfl
@[go_sem] theorem zrow_76 : zrow Try.prog 76 = [.v (.int .i64 0), .v (.int .i64 0)] := by kernel_rfl
@[go_sem] theorem eq_76 (op : BinOp) (x0 y0 : Int) (x1 y1 : Int) (K : Go.Ax.T → Prop) : eqAgg Try.prog op 76 [.v (.int .i64 x0), .v (.int .i64 x1)] [.v (.int .i64 y0), .v (.int .i64 y1)] K = match op with | .eql => K (.one (.v (.bool (x0 == y0 && x1 == y1)))) | .neq => K (.one (.v (.bool (!(x0 == y0 && x1 == y1))))) | _ => False :=
  eqAgg_deep und_76 (by kernel_rfl) (ks := [.int .i64, .int .i64]) (by kernel_rfl) (xs := [.int .i64 x0, .int .i64 x1]) (ys := [.int .i64 y0, .int .i64 y1]) (by kernel_rfl) (by kernel_rfl) op K
@[go_sem] theorem places_76 : placesT Try.prog 76 = some [(0, 1), (1, 1)] := by kernel_rfl
@[go_sem] theorem und_77 : Try.prog.underlying 77 = some (.struct #[⟨"Seq", 2, 0, false, "", "", 0⟩, ⟨"Lot", 2, 1, false, "", "", 8⟩, ⟨"Member", 3, 2, false, "", "", 16⟩, ⟨"Price", 2, 3, false, "", "", 24⟩]) := by kernel_rfl
@[go_sem] theorem info_77 : (Try.prog.info? 77).isSome = true := by kernel_rfl
@[go_sem] theorem cells_77 : Try.prog.cellsOf 77 = 4 := by kernel_rfl
@[go_sem] theorem agg_77 : isAggT Try.prog 77 = true := by kernel_rfl
@[go_sem] theorem flat_77 : flatTy Try.prog 77 = true := by kernel_rfl
@[go_sem] theorem zeroT_77 : zeroT Try.prog 77 = some [.d (.v (.int .i64 0)), .d (.v (.int .i64 0)), .d (.v (.int .i64 0)), .d (.v (.int .i64 0))] := by kernel_rfl
@[go_sem] theorem zeroD_77 : zeroD Try.prog 77 = some [.v (.int .i64 0), .v (.int .i64 0), .v (.int .i64 0), .v (.int .i64 0)] := by kernel_rfl
@[go_sem] theorem zrow_77 : zrow Try.prog 77 = [.v (.int .i64 0), .v (.int .i64 0), .v (.int .i64 0), .v (.int .i64 0)] := by kernel_rfl
@[go_sem] theorem eq_77 (op : BinOp) (x0 y0 : Int) (x1 y1 : Int) (x2 y2 : Int) (x3 y3 : Int) (K : Go.Ax.T → Prop) : eqAgg Try.prog op 77 [.v (.int .i64 x0), .v (.int .i64 x1), .v (.int .i64 x2), .v (.int .i64 x3)] [.v (.int .i64 y0), .v (.int .i64 y1), .v (.int .i64 y2), .v (.int .i64 y3)] K = match op with | .eql => K (.one (.v (.bool (x0 == y0 && (x1 == y1 && (x2 == y2 && x3 == y3)))))) | .neq => K (.one (.v (.bool (!(x0 == y0 && (x1 == y1 && (x2 == y2 && x3 == y3))))))) | _ => False :=
  eqAgg_deep und_77 (by kernel_rfl) (ks := [.int .i64, .int .i64, .int .i64, .int .i64]) (by kernel_rfl) (xs := [.int .i64 x0, .int .i64 x1, .int .i64 x2, .int .i64 x3]) (ys := [.int .i64 y0, .int .i64 y1, .int .i64 y2, .int .i64 y3]) (by kernel_rfl) (by kernel_rfl) op K
@[go_sem] theorem places_77 : placesT Try.prog 77 = some [(0, 1), (1, 1), (2, 1), (3, 1)] := by kernel_rfl
@[go_sem] theorem und_78 : Try.prog.underlying 78 = some (.struct #[⟨"Seq", 2, 0, false, "", "", 0⟩, ⟨"Lot", 2, 1, false, "", "", 8⟩, ⟨"Member", 3, 2, false, "", "", 16⟩, ⟨"Price", 2, 3, false, "", "", 24⟩]) := by kernel_rfl
@[go_sem] theorem info_78 : (Try.prog.info? 78).isSome = true := by kernel_rfl
@[go_sem] theorem cells_78 : Try.prog.cellsOf 78 = 4 := by kernel_rfl
@[go_sem] theorem agg_78 : isAggT Try.prog 78 = true := by kernel_rfl
@[go_sem] theorem flat_78 : flatTy Try.prog 78 = true := by kernel_rfl
@[go_sem] theorem zeroT_78 : zeroT Try.prog 78 = some [.d (.v (.int .i64 0)), .d (.v (.int .i64 0)), .d (.v (.int .i64 0)), .d (.v (.int .i64 0))] := by kernel_rfl
@[go_sem] theorem zeroD_78 : zeroD Try.prog 78 = some [.v (.int .i64 0), .v (.int .i64 0), .v (.int .i64 0), .v (.int .i64 0)] := by kernel_rfl
@[go_sem] theorem zrow_78 : zrow Try.prog 78 = [.v (.int .i64 0), .v (.int .i64 0), .v (.int .i64 0), .v (.int .i64 0)] := by kernel_rfl
@[go_sem] theorem eq_78 (op : BinOp) (x0 y0 : Int) (x1 y1 : Int) (x2 y2 : Int) (x3 y3 : Int) (K : Go.Ax.T → Prop) : eqAgg Try.prog op 78 [.v (.int .i64 x0), .v (.int .i64 x1), .v (.int .i64 x2), .v (.int .i64 x3)] [.v (.int .i64 y0), .v (.int .i64 y1), .v (.int .i64 y2), .v (.int .i64 y3)] K = match op with | .eql => K (.one (.v (.bool (x0 == y0 && (x1 == y1 && (x2 == y2 && x3 == y3)))))) | .neq => K (.one (.v (.bool (!(x0 == y0 && (x1 == y1 && (x2 == y2 && x3 == y3))))))) | _ => False :=
  eqAgg_deep und_78 (by kernel_rfl) (ks := [.int .i64, .int .i64, .int .i64, .int .i64]) (by kernel_rfl) (xs := [.int .i64 x0, .int .i64 x1, .int .i64 x2, .int .i64 x3]) (ys := [.int .i64 y0, .int .i64 y1, .int .i64 y2, .int .i64 y3]) (by kernel_rfl) (by kernel_rfl) op K
@[go_sem] theorem places_78 : placesT Try.prog 78 = some [(0, 1), (1, 1), (2, 1), (3, 1)] := by kernel_rfl
@[go_sem] theorem und_91 : Try.prog.underlying 91 = some (.struct #[⟨"Id", 3, 0, false, "", "", 0⟩, ⟨"Member", 3, 1, false, "", "", 8⟩, ⟨"Kind", 3, 2, false, "", "", 16⟩, ⟨"Limit", 2, 3, false, "", "", 24⟩]) := by kernel_rfl
@[go_sem] theorem info_91 : (Try.prog.info? 91).isSome = true := by kernel_rfl
@[go_sem] theorem cells_91 : Try.prog.cellsOf 91 = 4 := by kernel_rfl
@[go_sem] theorem agg_91 : isAggT Try.prog 91 = true := by kernel_rfl
@[go_sem] theorem flat_91 : flatTy Try.prog 91 = true := by kernel_rfl
@[go_sem] theorem zeroT_91 : zeroT Try.prog 91 = some [.d (.v (.int .i64 0)), .d (.v (.int .i64 0)), .d (.v (.int .i64 0)), .d (.v (.int .i64 0))] := by kernel_rfl
@[go_sem] theorem zeroD_91 : zeroD Try.prog 91 = some [.v (.int .i64 0), .v (.int .i64 0), .v (.int .i64 0), .v (.int .i64 0)] := by kernel_rfl
@[go_sem] theorem zrow_91 : zrow Try.prog 91 = [.v (.int .i64 0), .v (.int .i64 0), .v (.int .i64 0), .v (.int .i64 0)] := by kernel_rfl
@[go_sem] theorem eq_91 (op : BinOp) (x0 y0 : Int) (x1 y1 : Int) (x2 y2 : Int) (x3 y3 : Int) (K : Go.Ax.T → Prop) : eqAgg Try.prog op 91 [.v (.int .i64 x0), .v (.int .i64 x1), .v (.int .i64 x2), .v (.int .i64 x3)] [.v (.int .i64 y0), .v (.int .i64 y1), .v (.int .i64 y2), .v (.int .i64 y3)] K = match op with | .eql => K (.one (.v (.bool (x0 == y0 && (x1 == y1 && (x2 == y2 && x3 == y3)))))) | .neq => K (.one (.v (.bool (!(x0 == y0 && (x1 == y1 && (x2 == y2 && x3 == y3))))))) | _ => False :=
  eqAgg_deep und_91 (by kernel_rfl) (ks := [.int .i64, .int .i64, .int .i64, .int .i64]) (by kernel_rfl) (xs := [.int .i64 x0, .int .i64 x1, .int .i64 x2, .int .i64 x3]) (ys := [.int .i64 y0, .int .i64 y1, .int .i64 y2, .int .i64 y3]) (by kernel_rfl) (by kernel_rfl) op K
@[go_sem] theorem places_91 : placesT Try.prog 91 = some [(0, 1), (1, 1), (2, 1), (3, 1)] := by kernel_rfl
@[go_sem] theorem und_92 : Try.prog.underlying 92 = some (.struct #[⟨"Id", 3, 0, false, "", "", 0⟩, ⟨"Member", 3, 1, false, "", "", 8⟩, ⟨"Kind", 3, 2, false, "", "", 16⟩, ⟨"Limit", 2, 3, false, "", "", 24⟩]) := by kernel_rfl
@[go_sem] theorem info_92 : (Try.prog.info? 92).isSome = true := by kernel_rfl
@[go_sem] theorem cells_92 : Try.prog.cellsOf 92 = 4 := by kernel_rfl
@[go_sem] theorem agg_92 : isAggT Try.prog 92 = true := by kernel_rfl
@[go_sem] theorem flat_92 : flatTy Try.prog 92 = true := by kernel_rfl
@[go_sem] theorem zeroT_92 : zeroT Try.prog 92 = some [.d (.v (.int .i64 0)), .d (.v (.int .i64 0)), .d (.v (.int .i64 0)), .d (.v (.int .i64 0))] := by kernel_rfl
@[go_sem] theorem zeroD_92 : zeroD Try.prog 92 = some [.v (.int .i64 0), .v (.int .i64 0), .v (.int .i64 0), .v (.int .i64 0)] := by kernel_rfl
@[go_sem] theorem zrow_92 : zrow Try.prog 92 = [.v (.int .i64 0), .v (.int .i64 0), .v (.int .i64 0), .v (.int .i64 0)] := by kernel_rfl
@[go_sem] theorem eq_92 (op : BinOp) (x0 y0 : Int) (x1 y1 : Int) (x2 y2 : Int) (x3 y3 : Int) (K : Go.Ax.T → Prop) : eqAgg Try.prog op 92 [.v (.int .i64 x0), .v (.int .i64 x1), .v (.int .i64 x2), .v (.int .i64 x3)] [.v (.int .i64 y0), .v (.int .i64 y1), .v (.int .i64 y2), .v (.int .i64 y3)] K = match op with | .eql => K (.one (.v (.bool (x0 == y0 && (x1 == y1 && (x2 == y2 && x3 == y3)))))) | .neq => K (.one (.v (.bool (!(x0 == y0 && (x1 == y1 && (x2 == y2 && x3 == y3))))))) | _ => False :=
  eqAgg_deep und_92 (by kernel_rfl) (ks := [.int .i64, .int .i64, .int .i64, .int .i64]) (by kernel_rfl) (xs := [.int .i64 x0, .int .i64 x1, .int .i64 x2, .int .i64 x3]) (ys := [.int .i64 y0, .int .i64 y1, .int .i64 y2, .int .i64 y3]) (by kernel_rfl) (by kernel_rfl) op K
@[go_sem] theorem places_92 : placesT Try.prog 92 = some [(0, 1), (1, 1), (2, 1), (3, 1)] := by kernel_rfl
@[go_sem] theorem und_105 : Try.prog.underlying 105 = some (.slice 120) := by kernel_rfl
@[go_sem] theorem info_105 : (Try.prog.info? 105).isSome = true := by kernel_rfl
@[go_sem] theorem cells_105 : Try.prog.cellsOf 105 = 1 := by kernel_rfl
@[go_sem] theorem agg_105 : isAggT Try.prog 105 = false := by kernel_rfl
@[go_sem] theorem flat_105 : flatTy Try.prog 105 = false := by kernel_rfl
@[go_sem] theorem zeroT_105 : zeroT Try.prog 105 = some [.own 0 []] := by kernel_rfl
@[go_sem] theorem zeroD_105 : zeroD Try.prog 105 = some [.l []] := by kernel_rfl
@[go_sem] theorem zrow_105 : zrow Try.prog 105 = [.l []] := by kernel_rfl
@[go_sem] theorem stride_105 : strideT Try.prog 105 = 1 := by kernel_rfl
@[go_sem] theorem elem_105 : elemT Try.prog 105 = some (120, 1, 8, [.v (.int .u64 0)]) := by kernel_rfl
@[go_sem] theorem und_106 : Try.prog.underlying 106 = some (.struct #[⟨"Neg", 4, 0, false, "", "", 0⟩, ⟨"D", 105, 1, false, "", "", 8⟩]) := by kernel_rfl
@[go_sem] theorem info_106 : (Try.prog.info? 106).isSome = true := by kernel_rfl
@[go_sem] theorem cells_106 : Try.prog.cellsOf 106 = 2 := by kernel_rfl
@[go_sem] theorem agg_106 : isAggT Try.prog 106 = true := by kernel_rfl
@[go_sem] theorem flat_106 : flatTy Try.prog 106 = false := by kernel_rfl
@[go_sem] theorem zeroT_106 : zeroT Try.prog 106 = some [.d (.v (.bool false)), .own 0 []] := by kernel_rfl
@[go_sem] theorem zeroD_106 : zeroD Try.prog 106 = some [.v (.bool false), .l []] := by kernel_rfl
@[go_sem] theorem zrow_106 : zrow Try.prog 106 = [.v (.bool false), .l []] := by kernel_rfl
@[go_sem] theorem places_106 : placesT Try.prog 106 = some [(0, 1), (1, 1)] := by kernel_rfl
@[go_sem] theorem und_107 : Try.prog.underlying 107 = some (.struct #[⟨"Neg", 4, 0, false, "", "", 0⟩, ⟨"D", 105, 1, false, "", "", 8⟩]) := by kernel_rfl
@[go_sem] theorem info_107 : (Try.prog.info? 107).isSome = true := by kernel_rfl
@[go_sem] theorem cells_107 : Try.prog.cellsOf 107 = 2 := by kernel_rfl
@[go_sem] theorem agg_107 : isAggT Try.prog 107 = true := by kernel_rfl
@[go_sem] theorem flat_107 : flatTy Try.prog 107 = false := by kernel_rfl
@[go_sem] theorem zeroT_107 : zeroT Try.prog 107 = some [.d (.v (.bool false)), .own 0 []] := by kernel_rfl
@[go_sem] theorem zeroD_107 : zeroD Try.prog 107 = some [.v (.bool false), .l []] := by kernel_rfl
@[go_sem] theorem zrow_107 : zrow Try.prog 107 = [.v (.bool false), .l []] := by kernel_rfl
@[go_sem] theorem places_107 : placesT Try.prog 107 = some [(0, 1), (1, 1)] := by kernel_rfl
@[go_sem] theorem und_120 : Try.prog.underlying 120 = some (.int .u64) := by kernel_rfl
@[go_sem] theorem info_120 : (Try.prog.info? 120).isSome = true := by kernel_rfl
@[go_sem] theorem cells_120 : Try.prog.cellsOf 120 = 1 := by kernel_rfl
@[go_sem] theorem agg_120 : isAggT Try.prog 120 = false := by kernel_rfl
@[go_sem] theorem flat_120 : flatTy Try.prog 120 = true := by kernel_rfl
@[go_sem] theorem zeroT_120 : zeroT Try.prog 120 = some [.d (.v (.int .u64 0))] := by kernel_rfl
@[go_sem] theorem zeroD_120 : zeroD Try.prog 120 = some [.v (.int .u64 0)] := by kernel_rfl
@[go_sem] theorem zrow_120 : zrow Try.prog 120 = [.v (.int .u64 0)] := by kernel_rfl
@[go_sem] theorem und_121 : Try.prog.underlying 121 = some (.struct #[⟨"Hi", 2, 0, false, "", "", 0⟩, ⟨"Lo", 120, 1, false, "", "", 8⟩]) := by kernel_rfl
@[go_sem] theorem info_121 : (Try.prog.info? 121).isSome = true := by kernel_rfl
@[go_sem] theorem cells_121 : Try.prog.cellsOf 121 = 2 := by kernel_rfl
@[go_sem] theorem agg_121 : isAggT Try.prog 121 = true := by kernel_rfl
@[go_sem] theorem flat_121 : flatTy Try.prog 121 = true := by kernel_rfl
@[go_sem] theorem zeroT_121 : zeroT Try.prog 121 = some [.d (.v (.int .i64 0)), .d (.v (.int .u64 0))] := by kernel_rfl
@[go_sem] theorem zeroD_121 : zeroD Try.prog 121 = some [.v (.int .i64 0), .v (.int .u64 0)] := by kernel_rfl
@[go_sem] theorem zrow_121 : zrow Try.prog 121 = [.v (.int .i64 0), .v (.int .u64 0)] := by kernel_rfl
@[go_sem] theorem eq_121 (op : BinOp) (x0 y0 : Int) (x1 y1 : Int) (K : Go.Ax.T → Prop) : eqAgg Try.prog op 121 [.v (.int .i64 x0), .v (.int .u64 x1)] [.v (.int .i64 y0), .v (.int .u64 y1)] K = match op with | .eql => K (.one (.v (.bool (x0 == y0 && x1 == y1)))) | .neq => K (.one (.v (.bool (!(x0 == y0 && x1 == y1))))) | _ => False :=
  eqAgg_deep und_121 (by kernel_rfl) (ks := [.int .i64, .int .u64]) (by kernel_rfl) (xs := [.int .i64 x0, .int .u64 x1]) (ys := [.int .i64 y0, .int .u64 y1]) (by kernel_rfl) (by kernel_rfl) op K
@[go_sem] theorem places_121 : placesT Try.prog 121 = some [(0, 1), (1, 1)] := by kernel_rfl
@[go_sem] theorem und_122 : Try.prog.underlying 122 = some (.struct #[⟨"Hi", 2, 0, false, "", "", 0⟩, ⟨"Lo", 120, 1, false, "", "", 8⟩]) := by kernel_rfl
@[go_sem] theorem info_122 : (Try.prog.info? 122).isSome = true := by kernel_rfl
@[go_sem] theorem cells_122 : Try.prog.cellsOf 122 = 2 := by kernel_rfl
@[go_sem] theorem agg_122 : isAggT Try.prog 122 = true := by kernel_rfl
@[go_sem] theorem flat_122 : flatTy Try.prog 122 = true := by kernel_rfl
@[go_sem] theorem zeroT_122 : zeroT Try.prog 122 = some [.d (.v (.int .i64 0)), .d (.v (.int .u64 0))] := by kernel_rfl
@[go_sem] theorem zeroD_122 : zeroD Try.prog 122 = some [.v (.int .i64 0), .v (.int .u64 0)] := by kernel_rfl
@[go_sem] theorem zrow_122 : zrow Try.prog 122 = [.v (.int .i64 0), .v (.int .u64 0)] := by kernel_rfl
@[go_sem] theorem eq_122 (op : BinOp) (x0 y0 : Int) (x1 y1 : Int) (K : Go.Ax.T → Prop) : eqAgg Try.prog op 122 [.v (.int .i64 x0), .v (.int .u64 x1)] [.v (.int .i64 y0), .v (.int .u64 y1)] K = match op with | .eql => K (.one (.v (.bool (x0 == y0 && x1 == y1)))) | .neq => K (.one (.v (.bool (!(x0 == y0 && x1 == y1))))) | _ => False :=
  eqAgg_deep und_122 (by kernel_rfl) (ks := [.int .i64, .int .u64]) (by kernel_rfl) (xs := [.int .i64 x0, .int .u64 x1]) (ys := [.int .i64 y0, .int .u64 y1]) (by kernel_rfl) (by kernel_rfl) op K
@[go_sem] theorem places_122 : placesT Try.prog 122 = some [(0, 1), (1, 1)] := by kernel_rfl
@[go_sem] theorem und_127 : Try.prog.underlying 127 = some (.struct #[⟨"Acc", 3, 0, false, "", "", 0⟩, ⟨"Inst", 3, 1, false, "", "", 8⟩, ⟨"Q", 2, 2, false, "", "", 16⟩]) := by kernel_rfl
@[go_sem] theorem info_127 : (Try.prog.info? 127).isSome = true := by kernel_rfl
@[go_sem] theorem cells_127 : Try.prog.cellsOf 127 = 3 := by kernel_rfl
@[go_sem] theorem agg_127 : isAggT Try.prog 127 = true := by kernel_rfl
@[go_sem] theorem flat_127 : flatTy Try.prog 127 = true := by kernel_rfl
@[go_sem] theorem zeroT_127 : zeroT Try.prog 127 = some [.d (.v (.int .i64 0)), .d (.v (.int .i64 0)), .d (.v (.int .i64 0))] := by kernel_rfl
@[go_sem] theorem zeroD_127 : zeroD Try.prog 127 = some [.v (.int .i64 0), .v (.int .i64 0), .v (.int .i64 0)] := by kernel_rfl
@[go_sem] theorem zrow_127 : zrow Try.prog 127 = [.v (.int .i64 0), .v (.int .i64 0), .v (.int .i64 0)] := by kernel_rfl
@[go_sem] theorem eq_127 (op : BinOp) (x0 y0 : Int) (x1 y1 : Int) (x2 y2 : Int) (K : Go.Ax.T → Prop) : eqAgg Try.prog op 127 [.v (.int .i64 x0), .v (.int .i64 x1), .v (.int .i64 x2)] [.v (.int .i64 y0), .v (.int .i64 y1), .v (.int .i64 y2)] K = match op with | .eql => K (.one (.v (.bool (x0 == y0 && (x1 == y1 && x2 == y2))))) | .neq => K (.one (.v (.bool (!(x0 == y0 && (x1 == y1 && x2 == y2)))))) | _ => False :=
  eqAgg_deep und_127 (by kernel_rfl) (ks := [.int .i64, .int .i64, .int .i64]) (by kernel_rfl) (xs := [.int .i64 x0, .int .i64 x1, .int .i64 x2]) (ys := [.int .i64 y0, .int .i64 y1, .int .i64 y2]) (by kernel_rfl) (by kernel_rfl) op K
@[go_sem] theorem places_127 : placesT Try.prog 127 = some [(0, 1), (1, 1), (2, 1)] := by kernel_rfl
@[go_sem] theorem und_128 : Try.prog.underlying 128 = some (.struct #[⟨"Acc", 3, 0, false, "", "", 0⟩, ⟨"Inst", 3, 1, false, "", "", 8⟩, ⟨"Q", 2, 2, false, "", "", 16⟩]) := by kernel_rfl
@[go_sem] theorem info_128 : (Try.prog.info? 128).isSome = true := by kernel_rfl
@[go_sem] theorem cells_128 : Try.prog.cellsOf 128 = 3 := by kernel_rfl
@[go_sem] theorem agg_128 : isAggT Try.prog 128 = true := by kernel_rfl
@[go_sem] theorem flat_128 : flatTy Try.prog 128 = true := by kernel_rfl
@[go_sem] theorem zeroT_128 : zeroT Try.prog 128 = some [.d (.v (.int .i64 0)), .d (.v (.int .i64 0)), .d (.v (.int .i64 0))] := by kernel_rfl
@[go_sem] theorem zeroD_128 : zeroD Try.prog 128 = some [.v (.int .i64 0), .v (.int .i64 0), .v (.int .i64 0)] := by kernel_rfl
@[go_sem] theorem zrow_128 : zrow Try.prog 128 = [.v (.int .i64 0), .v (.int .i64 0), .v (.int .i64 0)] := by kernel_rfl
@[go_sem] theorem eq_128 (op : BinOp) (x0 y0 : Int) (x1 y1 : Int) (x2 y2 : Int) (K : Go.Ax.T → Prop) : eqAgg Try.prog op 128 [.v (.int .i64 x0), .v (.int .i64 x1), .v (.int .i64 x2)] [.v (.int .i64 y0), .v (.int .i64 y1), .v (.int .i64 y2)] K = match op with | .eql => K (.one (.v (.bool (x0 == y0 && (x1 == y1 && x2 == y2))))) | .neq => K (.one (.v (.bool (!(x0 == y0 && (x1 == y1 && x2 == y2)))))) | _ => False :=
  eqAgg_deep und_128 (by kernel_rfl) (ks := [.int .i64, .int .i64, .int .i64]) (by kernel_rfl) (xs := [.int .i64 x0, .int .i64 x1, .int .i64 x2]) (ys := [.int .i64 y0, .int .i64 y1, .int .i64 y2]) (by kernel_rfl) (by kernel_rfl) op K
@[go_sem] theorem places_128 : placesT Try.prog 128 = some [(0, 1), (1, 1), (2, 1)] := by kernel_rfl
@[go_sem] theorem und_129 : Try.prog.underlying 129 = some (.struct #[⟨"Id", 2, 0, false, "", "", 0⟩, ⟨"Acc", 3, 1, false, "", "", 8⟩, ⟨"Inst", 3, 2, false, "", "", 16⟩, ⟨"Side", 3, 3, false, "", "", 24⟩, ⟨"Q", 2, 4, false, "", "", 32⟩, ⟨"P", 2, 5, false, "", "", 40⟩]) := by kernel_rfl
@[go_sem] theorem info_129 : (Try.prog.info? 129).isSome = true := by kernel_rfl
@[go_sem] theorem cells_129 : Try.prog.cellsOf 129 = 6 := by kernel_rfl
@[go_sem] theorem agg_129 : isAggT Try.prog 129 = true := by kernel_rfl
@[go_sem] theorem flat_129 : flatTy Try.prog 129 = true := by kernel_rfl
@[go_sem] theorem zeroT_129 : zeroT Try.prog 129 = some [.d (.v (.int .i64 0)), .d (.v (.int .i64 0)), .d (.v (.int .i64 0)), .d (.v (.int .i64 0)), .d (.v (.int .i64 0)), .d (.v (.int .i64 0))] := by kernel_rfl
@[go_sem] theorem zeroD_129 : zeroD Try.prog 129 = some [.v (.int .i64 0), .v (.int .i64 0), .v (.int .i64 0), .v (.int .i64 0), .v (.int .i64 0), .v (.int .i64 0)] := by kernel_rfl
@[go_sem] theorem zrow_129 : zrow Try.prog 129 = [.v (.int .i64 0), .v (.int .i64 0), .v (.int .i64 0), .v (.int .i64 0), .v (.int .i64 0), .v (.int .i64 0)] := by kernel_rfl
@[go_sem] theorem eq_129 (op : BinOp) (x0 y0 : Int) (x1 y1 : Int) (x2 y2 : Int) (x3 y3 : Int) (x4 y4 : Int) (x5 y5 : Int) (K : Go.Ax.T → Prop) : eqAgg Try.prog op 129 [.v (.int .i64 x0), .v (.int .i64 x1), .v (.int .i64 x2), .v (.int .i64 x3), .v (.int .i64 x4), .v (.int .i64 x5)] [.v (.int .i64 y0), .v (.int .i64 y1), .v (.int .i64 y2), .v (.int .i64 y3), .v (.int .i64 y4), .v (.int .i64 y5)] K = match op with | .eql => K (.one (.v (.bool (x0 == y0 && (x1 == y1 && (x2 == y2 && (x3 == y3 && (x4 == y4 && x5 == y5)))))))) | .neq => K (.one (.v (.bool (!(x0 == y0 && (x1 == y1 && (x2 == y2 && (x3 == y3 && (x4 == y4 && x5 == y5))))))))) | _ => False :=
  eqAgg_deep und_129 (by kernel_rfl) (ks := [.int .i64, .int .i64, .int .i64, .int .i64, .int .i64, .int .i64]) (by kernel_rfl) (xs := [.int .i64 x0, .int .i64 x1, .int .i64 x2, .int .i64 x3, .int .i64 x4, .int .i64 x5]) (ys := [.int .i64 y0, .int .i64 y1, .int .i64 y2, .int .i64 y3, .int .i64 y4, .int .i64 y5]) (by kernel_rfl) (by kernel_rfl) op K
@[go_sem] theorem places_129 : placesT Try.prog 129 = some [(0, 1), (1, 1), (2, 1), (3, 1), (4, 1), (5, 1)] := by kernel_rfl
@[go_sem] theorem und_130 : Try.prog.underlying 130 = some (.struct #[⟨"Id", 2, 0, false, "", "", 0⟩, ⟨"Acc", 3, 1, false, "", "", 8⟩, ⟨"Inst", 3, 2, false, "", "", 16⟩, ⟨"Side", 3, 3, false, "", "", 24⟩, ⟨"Q", 2, 4, false, "", "", 32⟩, ⟨"P", 2, 5, false, "", "", 40⟩]) := by kernel_rfl
@[go_sem] theorem info_130 : (Try.prog.info? 130).isSome = true := by kernel_rfl
@[go_sem] theorem cells_130 : Try.prog.cellsOf 130 = 6 := by kernel_rfl
@[go_sem] theorem agg_130 : isAggT Try.prog 130 = true := by kernel_rfl
@[go_sem] theorem flat_130 : flatTy Try.prog 130 = true := by kernel_rfl
@[go_sem] theorem zeroT_130 : zeroT Try.prog 130 = some [.d (.v (.int .i64 0)), .d (.v (.int .i64 0)), .d (.v (.int .i64 0)), .d (.v (.int .i64 0)), .d (.v (.int .i64 0)), .d (.v (.int .i64 0))] := by kernel_rfl
@[go_sem] theorem zeroD_130 : zeroD Try.prog 130 = some [.v (.int .i64 0), .v (.int .i64 0), .v (.int .i64 0), .v (.int .i64 0), .v (.int .i64 0), .v (.int .i64 0)] := by kernel_rfl
@[go_sem] theorem zrow_130 : zrow Try.prog 130 = [.v (.int .i64 0), .v (.int .i64 0), .v (.int .i64 0), .v (.int .i64 0), .v (.int .i64 0), .v (.int .i64 0)] := by kernel_rfl
@[go_sem] theorem eq_130 (op : BinOp) (x0 y0 : Int) (x1 y1 : Int) (x2 y2 : Int) (x3 y3 : Int) (x4 y4 : Int) (x5 y5 : Int) (K : Go.Ax.T → Prop) : eqAgg Try.prog op 130 [.v (.int .i64 x0), .v (.int .i64 x1), .v (.int .i64 x2), .v (.int .i64 x3), .v (.int .i64 x4), .v (.int .i64 x5)] [.v (.int .i64 y0), .v (.int .i64 y1), .v (.int .i64 y2), .v (.int .i64 y3), .v (.int .i64 y4), .v (.int .i64 y5)] K = match op with | .eql => K (.one (.v (.bool (x0 == y0 && (x1 == y1 && (x2 == y2 && (x3 == y3 && (x4 == y4 && x5 == y5)))))))) | .neq => K (.one (.v (.bool (!(x0 == y0 && (x1 == y1 && (x2 == y2 && (x3 == y3 && (x4 == y4 && x5 == y5))))))))) | _ => False :=
  eqAgg_deep und_130 (by kernel_rfl) (ks := [.int .i64, .int .i64, .int .i64, .int .i64, .int .i64, .int .i64]) (by kernel_rfl) (xs := [.int .i64 x0, .int .i64 x1, .int .i64 x2, .int .i64 x3, .int .i64 x4, .int .i64 x5]) (ys := [.int .i64 y0, .int .i64 y1, .int .i64 y2, .int .i64 y3, .int .i64 y4, .int .i64 y5]) (by kernel_rfl) (by kernel_rfl) op K
@[go_sem] theorem places_130 : placesT Try.prog 130 = some [(0, 1), (1, 1), (2, 1), (3, 1), (4, 1), (5, 1)] := by kernel_rfl
@[go_sem] theorem und_141 : Try.prog.underlying 141 = some (.int .u64) := by kernel_rfl
@[go_sem] theorem info_141 : (Try.prog.info? 141).isSome = true := by kernel_rfl
@[go_sem] theorem cells_141 : Try.prog.cellsOf 141 = 1 := by kernel_rfl
@[go_sem] theorem agg_141 : isAggT Try.prog 141 = false := by kernel_rfl
@[go_sem] theorem flat_141 : flatTy Try.prog 141 = true := by kernel_rfl
@[go_sem] theorem zeroT_141 : zeroT Try.prog 141 = some [.d (.v (.int .u64 0))] := by kernel_rfl
@[go_sem] theorem zeroD_141 : zeroD Try.prog 141 = some [.v (.int .u64 0)] := by kernel_rfl
@[go_sem] theorem zrow_141 : zrow Try.prog 141 = [.v (.int .u64 0)] := by kernel_rfl
@[go_sem] theorem und_148 : Try.prog.underlying 148 = some (.slice 122) := by kernel_rfl
@[go_sem] theorem info_148 : (Try.prog.info? 148).isSome = true := by kernel_rfl
@[go_sem] theorem cells_148 : Try.prog.cellsOf 148 = 1 := by kernel_rfl
@[go_sem] theorem agg_148 : isAggT Try.prog 148 = false := by kernel_rfl
@[go_sem] theorem flat_148 : flatTy Try.prog 148 = false := by kernel_rfl
@[go_sem] theorem zeroT_148 : zeroT Try.prog 148 = some [.own 0 []] := by kernel_rfl
@[go_sem] theorem zeroD_148 : zeroD Try.prog 148 = some [.l []] := by kernel_rfl
@[go_sem] theorem zrow_148 : zrow Try.prog 148 = [.l []] := by kernel_rfl
@[go_sem] theorem stride_148 : strideT Try.prog 148 = 2 := by kernel_rfl
@[go_sem] theorem elem_148 : elemT Try.prog 148 = some (122, 2, 16, [.v (.int .i64 0), .v (.int .u64 0)]) := by kernel_rfl
@[go_sem] theorem und_156 : Try.prog.underlying 156 = some (.array 13 4) := by kernel_rfl
@[go_sem] theorem info_156 : (Try.prog.info? 156).isSome = true := by kernel_rfl
@[go_sem] theorem cells_156 : Try.prog.cellsOf 156 = 13 := by kernel_rfl
@[go_sem] theorem agg_156 : isAggT Try.prog 156 = true := by kernel_rfl
@[go_sem] theorem flat_156 : flatTy Try.prog 156 = true := by kernel_rfl
@[go_sem] theorem zeroT_156 : zeroT Try.prog 156 = some [.d (.v (.bool false)), .d (.v (.bool false)), .d (.v (.bool false)), .d (.v (.bool false)), .d (.v (.bool false)), .d (.v (.bool false)), .d (.v (.bool false)), .d (.v (.bool false)), .d (.v (.bool false)), .d (.v (.bool false)), .d (.v (.bool false)), .d (.v (.bool false)), .d (.v (.bool false))] := by kernel_rfl
@[go_sem] theorem zeroD_156 : zeroD Try.prog 156 = some [.v (.bool false), .v (.bool false), .v (.bool false), .v (.bool false), .v (.bool false), .v (.bool false), .v (.bool false), .v (.bool false), .v (.bool false), .v (.bool false), .v (.bool false), .v (.bool false), .v (.bool false)] := by kernel_rfl
@[go_sem] theorem zrow_156 : zrow Try.prog 156 = [.v (.bool false), .v (.bool false), .v (.bool false), .v (.bool false), .v (.bool false), .v (.bool false), .v (.bool false), .v (.bool false), .v (.bool false), .v (.bool false), .v (.bool false), .v (.bool false), .v (.bool false)] := by kernel_rfl
@[go_sem] theorem places_156 : placesT Try.prog 156 = none := by kernel_rfl
@[go_sem] theorem arr_156 : arrT Try.prog 156 = some 1 := by kernel_rfl
@[go_sem] theorem und_165 : Try.prog.underlying 165 = some (.array 0 16) := by kernel_rfl
@[go_sem] theorem info_165 : (Try.prog.info? 165).isSome = true := by kernel_rfl
@[go_sem] theorem cells_165 : Try.prog.cellsOf 165 = 0 := by kernel_rfl
@[go_sem] theorem agg_165 : isAggT Try.prog 165 = true := by kernel_rfl
@[go_sem] theorem flat_165 : flatTy Try.prog 165 = true := by kernel_rfl
@[go_sem] theorem zeroT_165 : zeroT Try.prog 165 = some [] := by kernel_rfl
@[go_sem] theorem zeroD_165 : zeroD Try.prog 165 = some [] := by kernel_rfl
@[go_sem] theorem zrow_165 : zrow Try.prog 165 = [] := by kernel_rfl
@[go_sem] theorem places_165 : placesT Try.prog 165 = none := by kernel_rfl
@[go_sem] theorem arr_165 : arrT Try.prog 165 = some 1 := by kernel_rfl
@[go_sem] theorem und_170 : Try.prog.underlying 170 = some (.int .u8) := by kernel_rfl
@[go_sem] theorem info_170 : (Try.prog.info? 170).isSome = true := by kernel_rfl
@[go_sem] theorem cells_170 : Try.prog.cellsOf 170 = 1 := by kernel_rfl
@[go_sem] theorem agg_170 : isAggT Try.prog 170 = false := by kernel_rfl
@[go_sem] theorem flat_170 : flatTy Try.prog 170 = true := by kernel_rfl
@[go_sem] theorem zeroT_170 : zeroT Try.prog 170 = some [.d (.v (.int .u8 0))] := by kernel_rfl
@[go_sem] theorem zeroD_170 : zeroD Try.prog 170 = some [.v (.int .u8 0)] := by kernel_rfl
@[go_sem] theorem zrow_170 : zrow Try.prog 170 = [.v (.int .u8 0)] := by kernel_rfl
@[go_sem] theorem und_171 : Try.prog.underlying 171 = some (.int .u8) := by kernel_rfl
@[go_sem] theorem info_171 : (Try.prog.info? 171).isSome = true := by kernel_rfl
@[go_sem] theorem cells_171 : Try.prog.cellsOf 171 = 1 := by kernel_rfl
@[go_sem] theorem agg_171 : isAggT Try.prog 171 = false := by kernel_rfl
@[go_sem] theorem flat_171 : flatTy Try.prog 171 = true := by kernel_rfl
@[go_sem] theorem zeroT_171 : zeroT Try.prog 171 = some [.d (.v (.int .u8 0))] := by kernel_rfl
@[go_sem] theorem zeroD_171 : zeroD Try.prog 171 = some [.v (.int .u8 0)] := by kernel_rfl
@[go_sem] theorem zrow_171 : zrow Try.prog 171 = [.v (.int .u8 0)] := by kernel_rfl
@[go_sem] theorem und_176 : Try.prog.underlying 176 = some (.struct #[⟨"Size_", 12, 0, false, "", "", 0⟩, ⟨"PtrBytes", 12, 1, false, "", "", 8⟩, ⟨"Hash", 169, 2, false, "", "", 16⟩, ⟨"TFlag", 170, 3, false, "", "", 20⟩, ⟨"Align_", 5, 4, false, "", "", 21⟩, ⟨"FieldAlign_", 5, 5, false, "", "", 22⟩, ⟨"Kind_", 171, 6, false, "", "", 23⟩, ⟨"Equal", 172, 7, false, "", "", 24⟩, ⟨"GCData", 173, 8, false, "", "", 32⟩, ⟨"Str", 174, 9, false, "", "", 40⟩, ⟨"PtrToThis", 175, 10, false, "", "", 44⟩]) := by kernel_rfl
@[go_sem] theorem info_176 : (Try.prog.info? 176).isSome = true := by kernel_rfl
@[go_sem] theorem cells_176 : Try.prog.cellsOf 176 = 11 := by kernel_rfl
@[go_sem] theorem agg_176 : isAggT Try.prog 176 = true := by kernel_rfl
@[go_sem] theorem flat_176 : flatTy Try.prog 176 = false := by kernel_rfl
@[go_sem] theorem und_177 : Try.prog.underlying 177 = some (.struct #[⟨"Size_", 12, 0, false, "", "", 0⟩, ⟨"PtrBytes", 12, 1, false, "", "", 8⟩, ⟨"Hash", 169, 2, false, "", "", 16⟩, ⟨"TFlag", 170, 3, false, "", "", 20⟩, ⟨"Align_", 5, 4, false, "", "", 21⟩, ⟨"FieldAlign_", 5, 5, false, "", "", 22⟩, ⟨"Kind_", 171, 6, false, "", "", 23⟩, ⟨"Equal", 172, 7, false, "", "", 24⟩, ⟨"GCData", 173, 8, false, "", "", 32⟩, ⟨"Str", 174, 9, false, "", "", 40⟩, ⟨"PtrToThis", 175, 10, false, "", "", 44⟩]) := by kernel_rfl
@[go_sem] theorem info_177 : (Try.prog.info? 177).isSome = true := by kernel_rfl
@[go_sem] theorem cells_177 : Try.prog.cellsOf 177 = 11 := by kernel_rfl
@[go_sem] theorem agg_177 : isAggT Try.prog 177 = true := by kernel_rfl
@[go_sem] theorem flat_177 : flatTy Try.prog 177 = false := by kernel_rfl
@[go_sem] theorem flat_0 : flatTy Try.prog 0 = true := by kernel_rfl
@[go_sem] theorem info_0 : (Try.prog.info? 0).isSome = true := by kernel_rfl
@[go_sem] theorem flat_44 : flatTy Try.prog 44 = false := by kernel_rfl
@[go_sem] theorem info_44 : (Try.prog.info? 44).isSome = true := by kernel_rfl
@[go_sem] theorem flat_47 : flatTy Try.prog 47 = false := by kernel_rfl
@[go_sem] theorem info_47 : (Try.prog.info? 47).isSome = true := by kernel_rfl
@[go_sem] theorem flat_49 : flatTy Try.prog 49 = false := by kernel_rfl
@[go_sem] theorem info_49 : (Try.prog.info? 49).isSome = true := by kernel_rfl
@[go_sem] theorem flat_57 : flatTy Try.prog 57 = false := by kernel_rfl
@[go_sem] theorem info_57 : (Try.prog.info? 57).isSome = true := by kernel_rfl
@[go_sem] theorem flat_59 : flatTy Try.prog 59 = true := by kernel_rfl
@[go_sem] theorem info_59 : (Try.prog.info? 59).isSome = true := by kernel_rfl
@[go_sem] theorem flat_62 : flatTy Try.prog 62 = false := by kernel_rfl
@[go_sem] theorem info_62 : (Try.prog.info? 62).isSome = true := by kernel_rfl
@[go_sem] theorem flat_93 : flatTy Try.prog 93 = true := by kernel_rfl
@[go_sem] theorem info_93 : (Try.prog.info? 93).isSome = true := by kernel_rfl
@[go_sem] theorem flat_101 : flatTy Try.prog 101 = true := by kernel_rfl
@[go_sem] theorem info_101 : (Try.prog.info? 101).isSome = true := by kernel_rfl
@[go_sem] theorem flat_115 : flatTy Try.prog 115 = false := by kernel_rfl
@[go_sem] theorem info_115 : (Try.prog.info? 115).isSome = true := by kernel_rfl
@[go_sem] theorem flat_137 : flatTy Try.prog 137 = true := by kernel_rfl
@[go_sem] theorem info_137 : (Try.prog.info? 137).isSome = true := by kernel_rfl
@[go_sem] theorem flat_150 : flatTy Try.prog 150 = true := by kernel_rfl
@[go_sem] theorem info_150 : (Try.prog.info? 150).isSome = true := by kernel_rfl
@[go_sem] theorem mixed : Try.prog.follows .mixedOrders = true := by kernel_rfl
end Go.Ax
